/-
  The same functions, each as one Lean term; each is proved to be the swift form of the ghost.
  No claim is proved here.
-/
import Derived.Test.YthfbndnibpdleaaGreatDoorPSwA0
namespace Go.Gh.P
open Go.Gh
set_option maxRecDepth 100000
noncomputable def T4c1 (t32_26 : GVal) (x8_20 : GVal) (t25_12 : GVal) (x9_22 : GVal) (t29_15 : GVal) (h_19 : GHeap) (x10_24 : GVal) : SRes :=
sIf t32_26 (
sBlk 1 (bnd (catF x8_20 t25_12) fun t37_29 =>
bnd (catF x9_22 t29_15) fun t40_30 =>
some (SOut.normal [t37_29, t40_30] h_19)) fun vs_27 h_28 =>
uncons vs_27 fun x8_31 vs_32 =>
uncons vs_32 fun x9_33 vs_34 =>
unnil vs_34 (bnd (catF x10_24 (.int .i64 (.ofNat 1))) fun t34_35 =>
some (SOut.normal [x8_31, x9_33, t34_35] h_28))) (
some (SOut.exit 0 [x8_20, x9_22] h_19))
noncomputable def T4c2 (t53_52 : GVal) (t48_45 : GVal) (h_50 : GHeap) (call : CallF) : SRes :=
sJoin (gIf t53_52 true (
bnd (eqlF t48_45 (.int .i64 (.ofNat 0))) fun t56_55 =>
some (SOut.normal [t56_55] h_50)) (some (SOut.normal [gundef] h_50))) fun vs_53 h_54 =>
uncons vs_53 fun x56_56 vs_57 =>
unnil vs_57 (bnd (pickF t53_52 x56_56 (.bool false)) fun t57_58 =>
bnd2 (gdo t57_58 true (call 9 [] h_54) (some (gundef, h_54))) fun t59_59 h_60 =>
bnd (pickF t57_58 t59_59 (.bool false)) fun t60_61 =>
some (SOut.ret t60_61 h_60))
noncomputable def T4c3 (t69_70 : GVal) (t48_45 : GVal) (x14_68 : GVal) (h_65 : GHeap) (call : CallF) : SRes :=
sJoin (gIf t69_70 true (
bnd (eqlF t48_45 x14_68) fun t73_73 =>
some (SOut.normal [t73_73] h_65)) (some (SOut.normal [gundef] h_65))) fun vs_71 h_72 =>
uncons vs_71 fun x73_74 vs_75 =>
unnil vs_75 (bnd (pickF t69_70 x73_74 (.bool false)) fun t74_76 =>
bnd2 (gdo t74_76 true (call 9 [] h_72) (some (gundef, h_72))) fun t76_77 h_78 =>
bnd (pickF t74_76 t76_77 (.bool false)) fun t77_79 =>
some (SOut.ret t77_79 h_78))
noncomputable def T4c4 (t21_9 : GVal) (t63_63 : GVal) (h_50 : GHeap) (t49_46 : GVal) (t48_45 : GVal) (call : CallF) : SRes :=
sJoin (bnd (eqlF t21_9 (.int .i64 (.ofNat 3))) fun t65_66 =>
sIf t65_66 (
bnd (catF t63_63 (.int .i64 (.ofNat 2))) fun t67_67 =>
some (SOut.normal [t67_67] h_50)) (
some (SOut.normal [t63_63] h_50))) fun vs_64 h_65 =>
uncons vs_64 fun x14_68 vs_69 =>
unnil vs_69 (bnd (eqlF t49_46 (.int .i64 (.ofNat 21))) fun t69_70 =>
T4c3 t69_70 t48_45 x14_68 h_65 call)
noncomputable def T4c5 (h_48 : GHeap) (t11_47 : GVal) (t47_44 : GVal) (t18_7 : GVal) (t49_46 : GVal) (t48_45 : GVal) (call : CallF) (t25_12 : GVal) (t21_9 : GVal) : SRes :=
bnd2 (storeF h_48 5 t11_47 t47_44) fun _ h_50 =>
bnd (leqF t18_7 (.int .i64 (.ofNat 24))) fun t51_51 =>
sIf t51_51 (
bnd (eqlF t49_46 (.int .i64 (.ofNat 0))) fun t53_52 =>
T4c2 t53_52 t48_45 h_50 call) (
bnd (lenF true t25_12) fun t62_62 =>
bnd (gBin .mul (.int .i64 (.ofNat 24)) t62_62) fun t63_63 =>
T4c4 t21_9 t63_63 h_50 t49_46 t48_45 call)
noncomputable def T4c6 (x8_36 : GVal) (x9_38 : GVal) (call : CallF) (h_17 : GHeap) (t18_7 : GVal) (t25_12 : GVal) (t21_9 : GVal) : SRes :=
bnd (catF x8_36 (.str [97])) fun t43_40 =>
bnd (catF t43_40 x9_38) fun t45_41 =>
bnd2 (call 12 [t45_41] h_17) fun t46_42 h_43 =>
bnd (extrF 0 t46_42) fun t47_44 =>
bnd (extrF 1 t46_42) fun t48_45 =>
bnd (extrF 2 t46_42) fun t49_46 =>
bnd2 (allocV [(.int .i64 (.ofNat 0)), (.int .i64 (.ofNat 0)), (.str []), (.int .i64 (.ofNat 0)), .nils] h_43) fun t11_47 h_48 =>
T4c5 h_48 t11_47 t47_44 t18_7 t49_46 t48_45 call t25_12 t21_9
noncomputable def T4c7 (t18_7 : GVal) (t25_12 : GVal) (t29_15 : GVal) (n : Nat) (h : GHeap) (call : CallF) (t21_9 : GVal) : SRes :=
sBlk 0 (sLoop (fun vs_18 h_19 =>
uncons vs_18 fun x8_20 vs_21 =>
uncons vs_21 fun x9_22 vs_23 =>
uncons vs_23 fun x10_24 vs_25 =>
unnil vs_25 (bnd (lssF x10_24 t18_7) fun t32_26 =>
T4c1 t32_26 x8_20 t25_12 x9_22 t29_15 h_19 x10_24)) n [(.str []), (.str []), (.int .i64 (.ofNat 0))] h) fun vs_16 h_17 =>
uncons vs_16 fun x8_36 vs_37 =>
uncons vs_37 fun x9_38 vs_39 =>
unnil vs_39 (T4c6 x8_36 x9_38 call h_17 t18_7 t25_12 t21_9)
noncomputable def T4c8 (t20_8 : GVal) (h : GHeap) (t18_7 : GVal) (n : Nat) (call : CallF) : SRes :=
bnd (gBin .rem t20_8 (.int .i64 (.ofNat 6))) fun t21_9 =>
bnd (buildSlF (.str []) 1 6 [(0, (.str [40, 32])), (1, (.str [91, 32])), (2, (.str [102, 32, 40, 32])), (3, (.str [97, 32, 91, 32])), (4, (.str [45, 32])), (5, (.str [33, 32]))]) fun t22_10 =>
bnd (ixSF 1 t22_10 t21_9) fun t24_11 =>
bnd (loadF h 1 false t24_11) fun t25_12 =>
bnd (buildSlF (.str []) 1 6 [(0, (.str [32, 41])), (1, (.str [32, 93])), (2, (.str [32, 41])), (3, (.str [32, 93])), (4, (.str [])), (5, (.str []))]) fun t26_13 =>
bnd (ixSF 1 t26_13 t21_9) fun t28_14 =>
bnd (loadF h 1 false t28_14) fun t29_15 =>
T4c7 t18_7 t25_12 t29_15 n h call t21_9
/-- ratline ratlinelaw5.ParseDeep -/
noncomputable def T4 : TFun := fun _ call n args h => sEnd (
uncons args fun x0_1 vs_2 =>
uncons vs_2 fun x1_3 vs_4 =>
unnil vs_4 (bnd (gBin .and x0_1 (.int .i64 (.ofNat 65535))) fun t16_5 =>
bnd (gBin .rem t16_5 (.int .i64 (.ofNat 40))) fun t17_6 =>
bnd (catF t17_6 (.int .i64 (.ofNat 1))) fun t18_7 =>
bnd (gBin .and x1_3 (.int .i64 (.ofNat 65535))) fun t20_8 =>
T4c8 t20_8 h t18_7 n call))
theorem r4 : sRun s4 = T4 := by kernel_rfl
theorem e4 (u : Nat → Value → Prop) : TOK Go.Proofs.Tryz.prog (cfg u [] []) 4 T4 := .inr ⟨s4, _, _, _, r4.symm, Go.Proofs.Tryz.func4, k4 u, n4⟩
noncomputable def T7c1 (x1_3 : GVal) (x5_11 : GVal) (x6_13 : GVal) (h_10 : GHeap) (x7_15 : GVal) : SRes :=
sBlk 1 (sIf x1_3 (
bnd (catF x5_11 (.str [105, 102, 32, 49, 32, 123, 32, 125, 32, 101, 108, 115, 101, 32])) fun t26_20 =>
some (SOut.normal [t26_20, x6_13] h_10)) (
bnd (catF x5_11 (.str [105, 102, 32, 49, 32, 123, 32])) fun t28_21 =>
bnd (catF x6_13 (.str [32, 125])) fun t30_22 =>
some (SOut.normal [t28_21, t30_22] h_10))) fun vs_18 h_19 =>
uncons vs_18 fun x5_23 vs_24 =>
uncons vs_24 fun x6_25 vs_26 =>
unnil vs_26 (bnd (catF x7_15 (.int .i64 (.ofNat 1))) fun t23_27 =>
some (SOut.normal [x5_23, x6_25, t23_27] h_19))
noncomputable def T7c2 (t18_6 : GVal) (x1_3 : GVal) (n : Nat) (h : GHeap) : SRes :=
sLoop (fun vs_9 h_10 =>
uncons vs_9 fun x5_11 vs_12 =>
uncons vs_12 fun x6_13 vs_14 =>
uncons vs_14 fun x7_15 vs_16 =>
unnil vs_16 (bnd (lssF x7_15 t18_6) fun t21_17 =>
sIf t21_17 (
T7c1 x1_3 x5_11 x6_13 h_10 x7_15) (
some (SOut.exit 0 [x5_11, x6_13] h_10)))) n [(.str []), (.str []), (.int .i64 (.ofNat 0))] h
noncomputable def T7c3 (t51_52 : GVal) (t41_42 : GVal) (h_47 : GHeap) (call : CallF) : SRes :=
sJoin (gIf t51_52 true (
bnd (lenF false t41_42) fun t54_55 =>
bnd (eqlF t54_55 (.int .i64 (.ofNat 0))) fun t55_56 =>
some (SOut.normal [t55_56] h_47)) (some (SOut.normal [gundef] h_47))) fun vs_53 h_54 =>
uncons vs_53 fun x55_57 vs_58 =>
unnil vs_58 (bnd (pickF t51_52 x55_57 (.bool false)) fun t56_59 =>
bnd2 (gdo t56_59 true (call 9 [] h_54) (some (gundef, h_54))) fun t58_60 h_61 =>
bnd (pickF t56_59 t58_60 (.bool false)) fun t59_62 =>
some (SOut.ret t59_62 h_61))
noncomputable def T7c4 (t84_88 : GVal) (call : CallF) (t68_69 : GVal) (t41_42 : GVal) (h_84 : GHeap) : SRes :=
sJoin (gIf t84_88 true (
bnd2 (call 18 [t68_69, t41_42] h_84) fun t88_91 h_92 =>
some (SOut.normal [t88_91] h_92)) (some (SOut.normal [gundef] h_84))) fun vs_89 h_90 =>
uncons vs_89 fun x88_93 vs_94 =>
unnil vs_94 (bnd (pickF t84_88 x88_93 (.bool false)) fun t89_95 =>
bnd2 (gdo t89_95 true (call 9 [] h_90) (some (gundef, h_90))) fun t91_96 h_97 =>
bnd (pickF t89_95 t91_96 (.bool false)) fun t92_98 =>
some (SOut.ret t92_98 h_97))
noncomputable def T7c5 (vs_76 : List GVal) (t75_75 : GVal) (t70_71 : GVal) (h_77 : GHeap) (call : CallF) (t68_69 : GVal) (t41_42 : GVal) : SRes :=
uncons vs_76 fun x79_80 vs_81 =>
unnil vs_81 (bnd (pickF t75_75 x79_80 (.bool false)) fun t80_82 =>
sJoin (gIf t80_82 true (
bnd (eqlF t70_71 (.int .i64 (.ofNat 0))) fun t83_85 =>
some (SOut.normal [t83_85] h_77)) (some (SOut.normal [gundef] h_77))) fun vs_83 h_84 =>
uncons vs_83 fun x83_86 vs_87 =>
unnil vs_87 (bnd (pickF t80_82 x83_86 (.bool false)) fun t84_88 =>
T7c4 t84_88 call t68_69 t41_42 h_84))
noncomputable def T7c6 (t43_44 : GVal) (t64_66 : GVal) (h_68 : GHeap) (t41_42 : GVal) (t70_71 : GVal) (call : CallF) (t68_69 : GVal) : SRes :=
bnd (eqlF t43_44 (.int .i64 (.ofNat 0))) fun t72_72 =>
bnd2 (gdo t72_72 true (pv (some (t64_66)) h_68) (some (gundef, h_68))) fun t74_73 h_74 =>
bnd (pickF t72_72 t74_73 (.bool false)) fun t75_75 =>
sJoin (gIf t75_75 true (
bnd (lenF false t41_42) fun t78_78 =>
bnd (eqlF t78_78 (.int .i64 (.ofNat 1))) fun t79_79 =>
some (SOut.normal [t79_79] h_74)) (some (SOut.normal [gundef] h_74))) fun vs_76 h_77 =>
T7c5 vs_76 t75_75 t70_71 h_77 call t68_69 t41_42
noncomputable def T7c7 (call : CallF) (t41_42 : GVal) (h_47 : GHeap) (t43_44 : GVal) : SRes :=
bnd2 (call 16 [t41_42] h_47) fun t62_63 h_64 =>
bnd (extrF 0 t62_63) fun t63_65 =>
bnd (extrF 1 t62_63) fun t64_66 =>
bnd2 (call 15 [t63_65] h_64) fun t67_67 h_68 =>
bnd (extrF 0 t67_67) fun t68_69 =>
bnd (extrF 1 t67_67) fun _ =>
bnd (extrF 2 t67_67) fun t70_71 =>
T7c6 t43_44 t64_66 h_68 t41_42 t70_71 call t68_69
noncomputable def T7c8 (t45_45 : GVal) (t18_6 : GVal) (h_41 : GHeap) (t43_44 : GVal) (t41_42 : GVal) (call : CallF) : SRes :=
sJoin (gIf t45_45 true (
bnd (gtrF t18_6 (.int .i64 (.ofNat 23))) fun t48_48 =>
some (SOut.normal [t48_48] h_41)) (some (SOut.normal [gundef] h_41))) fun vs_46 h_47 =>
uncons vs_46 fun x48_49 vs_50 =>
unnil vs_50 (bnd (pickF t45_45 x48_49 (.bool false)) fun t49_51 =>
sIf t49_51 (
bnd (eqlF t43_44 (.int .i64 (.ofNat 21))) fun t51_52 =>
T7c3 t51_52 t41_42 h_47 call) (
T7c7 call t41_42 h_47 t43_44))
noncomputable def T7c9 (t36_37 : GVal) (x6_30 : GVal) (call : CallF) (h_33 : GHeap) (x1_3 : GVal) (t18_6 : GVal) : SRes :=
bnd (catF t36_37 x6_30) fun t38_38 =>
bnd (catF t38_38 (.str [32, 125])) fun t39_39 =>
bnd2 (call 15 [t39_39] h_33) fun t40_40 h_41 =>
bnd (extrF 0 t40_40) fun t41_42 =>
bnd (extrF 1 t40_40) fun _ =>
bnd (extrF 2 t40_40) fun t43_44 =>
bnd (unF .not x1_3) fun t45_45 =>
T7c8 t45_45 t18_6 h_41 t43_44 t41_42 call
noncomputable def T7c10 (vs_7 : List GVal) (x1_3 : GVal) (h_8 : GHeap) (call : CallF) (t18_6 : GVal) : SRes :=
uncons vs_7 fun x5_28 vs_29 =>
uncons vs_29 fun x6_30 vs_31 =>
unnil vs_31 (sJoin (sIf x1_3 (
bnd (catF x5_28 (.str [105, 102, 32, 50, 32, 123, 32, 125])) fun t33_34 =>
some (SOut.normal [t33_34] h_8)) (
some (SOut.normal [x5_28] h_8))) fun vs_32 h_33 =>
uncons vs_32 fun x5_35 vs_36 =>
unnil vs_36 (bnd (catF (.str [102, 110, 32, 109, 97, 105, 110, 32, 40, 32, 41, 32, 123, 32]) x5_35) fun t36_37 =>
T7c9 t36_37 x6_30 call h_33 x1_3 t18_6))
/-- ratline ratlinelaw5.ParseBlocks -/
noncomputable def T7 : TFun := fun _ call n args h => sEnd (
uncons args fun x0_1 vs_2 =>
uncons vs_2 fun x1_3 vs_4 =>
unnil vs_4 (bnd (gBin .and x0_1 (.int .i64 (.ofNat 65535))) fun t17_5 =>
bnd (gBin .rem t17_5 (.int .i64 (.ofNat 60))) fun t18_6 =>
sBlk 0 (T7c2 t18_6 x1_3 n h) fun vs_7 h_8 =>
T7c10 vs_7 x1_3 h_8 call t18_6))
theorem r7 : sRun s7 = T7 := by kernel_rfl
theorem e7 (u : Nat → Value → Prop) : TOK Go.Proofs.Tryz.prog (cfg u [] []) 7 T7 := .inr ⟨s7, _, _, _, r7.symm, Go.Proofs.Tryz.func7, k7 u, n7⟩
noncomputable def T9c1 (t57_67 : GVal) (t21_17 : GVal) (h_62 : GHeap) : SRes :=
sJoin (gIf t57_67 true (
bnd (ixSF 7 t21_17 (.int .i64 (.ofNat 0))) fun t60_70 =>
bnd (fieldAF 0 t60_70) fun t61_71 =>
bnd (loadF h_62 1 false t61_71) fun t62_72 =>
bnd (eqlF t62_72 (.str [109, 97, 105, 110])) fun t63_73 =>
some (SOut.normal [t63_73] h_62)) (some (SOut.normal [gundef] h_62))) fun vs_68 h_69 =>
uncons vs_68 fun x63_74 vs_75 =>
unnil vs_75 (bnd (pickF t57_67 x63_74 (.bool false)) fun t64_76 =>
some (SOut.ret t64_76 h_69))
noncomputable def T9c2 (t48_54 : GVal) (x51_58 : GVal) (t21_17 : GVal) (h_56 : GHeap) : SRes :=
bnd (pickF t48_54 x51_58 (.bool false)) fun t52_60 =>
sJoin (gIf t52_60 true (
bnd (lenF false t21_17) fun t55_63 =>
bnd (eqlF t55_63 (.int .i64 (.ofNat 1))) fun t56_64 =>
some (SOut.normal [t56_64] h_56)) (some (SOut.normal [gundef] h_56))) fun vs_61 h_62 =>
uncons vs_61 fun x56_65 vs_66 =>
unnil vs_66 (bnd (pickF t52_60 x56_65 (.bool false)) fun t57_67 =>
T9c1 t57_67 t21_17 h_62)
noncomputable def T9c3 (t44_48 : GVal) (t17_13 : GVal) (h_47 : GHeap) (t23_19 : GVal) (t21_17 : GVal) : SRes :=
sJoin (gIf t44_48 true (
bnd (eqlF t17_13 (.str [97, 32, 43, 32, 98, 32, 42, 32, 50, 32, 60, 32, 51])) fun t47_51 =>
some (SOut.normal [t47_51] h_47)) (some (SOut.normal [gundef] h_47))) fun vs_49 h_50 =>
uncons vs_49 fun x47_52 vs_53 =>
unnil vs_53 (bnd (pickF t44_48 x47_52 (.bool false)) fun t48_54 =>
sJoin (gIf t48_54 true (
bnd (eqlF t23_19 (.int .i64 (.ofNat 0))) fun t51_57 =>
some (SOut.normal [t51_57] h_50)) (some (SOut.normal [gundef] h_50))) fun vs_55 h_56 =>
uncons vs_55 fun x51_58 vs_59 =>
unnil vs_59 (T9c2 t48_54 x51_58 t21_17 h_56))
noncomputable def T9c4 (t35_36 : GVal) (t1_6 : GVal) (h_30 : GHeap) (t18_14 : GVal) (t17_13 : GVal) (t23_19 : GVal) (t21_17 : GVal) : SRes :=
sJoin (gIf t35_36 true (
bnd (fieldAF 4 t1_6) fun t37_39 =>
bnd (loadF h_30 1 false t37_39) fun t38_40 =>
bnd (lenF false t38_40) fun t39_41 =>
bnd (eqlF t39_41 (.int .i64 (.ofNat 2))) fun t40_42 =>
some (SOut.normal [t40_42] h_30)) (some (SOut.normal [gundef] h_30))) fun vs_37 h_38 =>
uncons vs_37 fun x40_43 vs_44 =>
unnil vs_44 (bnd (pickF t35_36 x40_43 (.bool false)) fun t41_45 =>
bnd2 (gdo t41_45 true (pv (some (t18_14)) h_38) (some (gundef, h_38))) fun t43_46 h_47 =>
bnd (pickF t41_45 t43_46 (.bool false)) fun t44_48 =>
T9c3 t44_48 t17_13 h_47 t23_19 t21_17)
noncomputable def T9c5 (t30_28 : GVal) (t1_6 : GVal) (h_22 : GHeap) (t18_14 : GVal) (t17_13 : GVal) (t23_19 : GVal) (t21_17 : GVal) : SRes :=
sJoin (gIf t30_28 true (
bnd (fieldAF 1 t1_6) fun t32_31 =>
bnd (loadF h_22 1 false t32_31) fun t33_32 =>
bnd (eqlF t33_32 (.int .i64 (.ofNat 8))) fun t34_33 =>
some (SOut.normal [t34_33] h_22)) (some (SOut.normal [gundef] h_22))) fun vs_29 h_30 =>
uncons vs_29 fun x34_34 vs_35 =>
unnil vs_35 (bnd (pickF t30_28 x34_34 (.bool false)) fun t35_36 =>
T9c4 t35_36 t1_6 h_30 t18_14 t17_13 t23_19 t21_17)
noncomputable def T9c6 (t25_20 : GVal) (t1_6 : GVal) (h_16 : GHeap) (t18_14 : GVal) (t17_13 : GVal) (t23_19 : GVal) (t21_17 : GVal) : SRes :=
sJoin (gIf t25_20 true (
bnd (fieldAF 0 t1_6) fun t27_23 =>
bnd (loadF h_16 1 false t27_23) fun t28_24 =>
bnd (eqlF t28_24 (.int .i64 (.ofNat 11))) fun t29_25 =>
some (SOut.normal [t29_25] h_16)) (some (SOut.normal [gundef] h_16))) fun vs_21 h_22 =>
uncons vs_21 fun x29_26 vs_27 =>
unnil vs_27 (bnd (pickF t25_20 x29_26 (.bool false)) fun t30_28 =>
T9c5 t30_28 t1_6 h_22 t18_14 t17_13 t23_19 t21_17)
noncomputable def T9c7 (t16_11 : GVal) (call : CallF) (h_12 : GHeap) (t13_5 : GVal) (t1_6 : GVal) : SRes :=
bnd (extrF 0 t16_11) fun t17_13 =>
bnd (extrF 1 t16_11) fun t18_14 =>
bnd2 (call 15 [(.str [102, 110, 32, 109, 97, 105, 110, 32, 40, 32, 41, 32, 123, 32, 125])] h_12) fun t20_15 h_16 =>
bnd (extrF 0 t20_15) fun t21_17 =>
bnd (extrF 1 t20_15) fun _ =>
bnd (extrF 2 t20_15) fun t23_19 =>
bnd (eqlF t13_5 (.int .i64 (.ofNat 0))) fun t25_20 =>
T9c6 t25_20 t1_6 h_16 t18_14 t17_13 t23_19 t21_17
noncomputable def T9c8 (t10_1 : GVal) (h_2 : GHeap) (call : CallF) : SRes :=
bnd (extrF 0 t10_1) fun t11_3 =>
bnd (extrF 1 t10_1) fun _ =>
bnd (extrF 2 t10_1) fun t13_5 =>
bnd2 (allocV [(.int .i64 (.ofNat 0)), (.int .i64 (.ofNat 0)), (.str []), (.int .i64 (.ofNat 0)), .nils] h_2) fun t1_6 h_7 =>
bnd2 (storeF h_7 5 t1_6 t11_3) fun _ h_9 =>
bnd (loadF h_9 5 true t1_6) fun t15_10 =>
bnd2 (call 10 [t15_10] h_9) fun t16_11 h_12 =>
T9c7 t16_11 call h_12 t13_5 t1_6
/-- ratline ratlinelaw5.awake -/
noncomputable def T9 : TFun := fun _ call _ args h => sEnd (
unnil args (bnd2 (call 12 [(.str [97, 32, 43, 32, 98, 32, 42, 32, 50, 32, 60, 32, 51])] h) fun t10_1 h_2 =>
T9c8 t10_1 h_2 call))
theorem r9 : sRun s9 = T9 := by kernel_rfl
theorem e9 (u : Nat → Value → Prop) : TOK Go.Proofs.Tryz.prog (cfg u [] []) 9 T9 := .inr ⟨s9, _, _, _, r9.symm, Go.Proofs.Tryz.func9, k9 u, n9⟩
noncomputable def T10c1 (t30_33 : GVal) (h_32 : GHeap) (t1_3 : GVal) (t7_29 : GVal) (call : CallF) (t22_22 : GVal) : SRes :=
sJoin (gIf t30_33 false (
bnd (loadF h_32 5 true t1_3) fun t32_36 =>
bnd (loadF h_32 5 true t7_29) fun t33_37 =>
bnd2 (call 23 [t32_36, t33_37] h_32) fun t34_38 h_39 =>
bnd (unF .not t34_38) fun t35_40 =>
some (SOut.normal [t35_40] h_39)) (some (SOut.normal [gundef] h_32))) fun vs_34 h_35 =>
uncons vs_34 fun x35_41 vs_42 =>
unnil vs_42 (bnd (pickF t30_33 (.bool true) x35_41) fun t36_43 =>
sIf t36_43 (
some (SOut.ret (.tuple [(.str []), (.bool false)]) h_35)) (
some (SOut.ret (.tuple [t22_22, (.bool true)]) h_35)))
noncomputable def T10c2 (call : CallF) (t22_22 : GVal) (h_23 : GHeap) (t1_3 : GVal) : SRes :=
bnd2 (call 12 [t22_22] h_23) fun t25_24 h_25 =>
bnd (extrF 0 t25_24) fun t26_26 =>
bnd (extrF 1 t25_24) fun _ =>
bnd (extrF 2 t25_24) fun t28_28 =>
bnd2 (allocV [(.int .i64 (.ofNat 0)), (.int .i64 (.ofNat 0)), (.str []), (.int .i64 (.ofNat 0)), .nils] h_25) fun t7_29 h_30 =>
bnd2 (storeF h_30 5 t7_29 t26_26) fun _ h_32 =>
bnd (neqF t28_28 (.int .i64 (.ofNat 0))) fun t30_33 =>
T10c1 t30_33 h_32 t1_3 t7_29 call t22_22
noncomputable def T10c3 (h_12 : GHeap) (t13_13 : GVal) (t1_3 : GVal) (call : CallF) : SRes :=
bnd2 (boxF h_12 1 t13_13) fun t14_14 h_15 =>
bnd (loadF h_15 5 true t1_3) fun t16_16 =>
bnd2 (call 21 [t14_14, t16_16, (.int .i64 (.ofNat 1))] h_15) fun _ h_18 =>
bnd (nilChkF t14_14) fun t19_19 =>
bnd (fieldAF 0 t19_19) fun t20_20 =>
bnd (loadF h_18 1 false t20_20) fun t21_21 =>
bnd2 (call 22 [t21_21, (.str [32])] h_18) fun t22_22 h_23 =>
T10c2 call t22_22 h_23 t1_3
noncomputable def T10c4 (h_6 : GHeap) (t4_5 : GVal) (t1_3 : GVal) (call : CallF) : SRes :=
bnd2 (storeF h_6 1 t4_5 (.int .i64 (.ofNat 4000))) fun _ h_8 =>
bnd (loadF h_8 5 true t1_3) fun t10_9 =>
bnd (buildSlF (.agg [(.int .i64 (.ofNat 0)), (.int .i64 (.ofNat 0)), (.str []), (.int .i64 (.ofNat 0)), .nils]) 5 1 [(0, t10_9)]) fun t11_10 =>
bnd2 (call 20 [t11_10, (.int .i64 (.ofNat 0)), t4_5] h_8) fun t12_11 h_12 =>
sIf t12_11 (
some (SOut.ret (.tuple [(.str []), (.bool false)]) h_12)) (
bnd (buildF [.nils] []) fun t13_13 =>
T10c3 h_12 t13_13 t1_3 call)
/-- ratline parse.Show -/
noncomputable def T10 : TFun := fun _ call _ args h => sEnd (
uncons args fun x0_1 vs_2 =>
unnil vs_2 (bnd2 (boxF h 5 x0_1) fun t1_3 h_4 =>
bnd2 (allocV [(.int .i64 (.ofNat 0))] h_4) fun t4_5 h_6 =>
T10c4 h_6 t4_5 t1_3 call))
theorem r10 : sRun s10 = T10 := by kernel_rfl
theorem e10 (u : Nat → Value → Prop) : TOK Go.Proofs.Tryz.prog (cfg u [] []) 10 T10 := .inr ⟨s10, _, _, _, r10.symm, Go.Proofs.Tryz.func10, k10 u, n10⟩
noncomputable def T12c1 (t17_19 : GVal) (h_10 : GHeap) (t7_5 : GVal) : SRes :=
bnd (fieldAF 1 t17_19) fun t18_20 =>
bnd (loadF h_10 1 false t18_20) fun t19_21 =>
bnd (nilChkF t7_5) fun t21_22 =>
bnd (fieldAF 0 t21_22) fun t22_23 =>
bnd (loadF h_10 1 false t22_23) fun t23_24 =>
bnd (lenF false t23_24) fun t24_25 =>
bnd (lssF t19_21 t24_25) fun t25_26 =>
some (SOut.normal [t25_26] h_10)
noncomputable def T12c2 (t14_16 : GVal) (t7_5 : GVal) (h_10 : GHeap) (call : CallF) : SRes :=
sJoin (gIf t14_16 true (
bnd (nilChkF t7_5) fun t17_19 =>
T12c1 t17_19 h_10 t7_5) (some (SOut.normal [gundef] h_10))) fun vs_17 h_18 =>
uncons vs_17 fun x25_27 vs_28 =>
unnil vs_28 (bnd (pickF t14_16 x25_27 (.bool false)) fun t26_29 =>
sIf t26_29 (
bnd2 (call 28 [t7_5, (.int .i64 (.ofNat 10))] h_18) fun _ h_31 =>
some (SOut.normal [] h_31)) (
some (SOut.normal [] h_18)))
noncomputable def T12c3 (h_12 : GHeap) (t37_38 : GVal) (t7_5 : GVal) (t2_3 : GVal) (t34_36 : GVal) : SRes :=
bnd (loadF h_12 1 false t37_38) fun t38_39 =>
bnd (nilChkF t7_5) fun t40_40 =>
bnd (fieldAF 5 t40_40) fun t41_41 =>
bnd (loadF h_12 1 false t41_41) fun t42_42 =>
bnd2 (storeF h_12 5 t2_3 t34_36) fun _ h_44 =>
guardS (((chkV (loadV h_44 1 false t37_38) t38_39) && ((chkV (loadV h_44 1 false t41_41) t42_42) && true)) && true) (
bnd (loadF h_44 5 true t2_3) fun r_45 =>
some (SOut.ret (.tuple [r_45, t38_39, t42_42]) h_44))
noncomputable def T12c4 (t33_35 : GVal) (t7_5 : GVal) (h_12 : GHeap) (t2_3 : GVal) : SRes :=
sIf t33_35 (
bnd (buildF [(.int .i64 (.ofNat 0)), (.int .i64 (.ofNat 0)), (.str []), (.int .i64 (.ofNat 0)), .nils] []) fun t34_36 =>
bnd (nilChkF t7_5) fun t36_37 =>
bnd (fieldAF 4 t36_37) fun t37_38 =>
T12c3 h_12 t37_38 t7_5 t2_3 t34_36) (
bnd (loadF h_12 5 true t2_3) fun t43_46 =>
bnd2 (storeF h_12 5 t2_3 t43_46) fun _ h_48 =>
bnd (loadF h_48 5 true t2_3) fun r_49 =>
some (SOut.ret (.tuple [r_49, (.int .i64 (.ofNat 0)), (.int .i64 (.ofNat 0))]) h_48))
noncomputable def T12c5 (t7_5 : GVal) (h_10 : GHeap) (call : CallF) (t2_3 : GVal) : SRes :=
sJoin (bnd (nilChkF t7_5) fun t11_13 =>
bnd (fieldAF 5 t11_13) fun t12_14 =>
bnd (loadF h_10 1 false t12_14) fun t13_15 =>
bnd (eqlF t13_15 (.int .i64 (.ofNat 0))) fun t14_16 =>
T12c2 t14_16 t7_5 h_10 call) fun vs_11 h_12 =>
unnil vs_11 (bnd (nilChkF t7_5) fun t30_32 =>
bnd (fieldAF 5 t30_32) fun t31_33 =>
bnd (loadF h_12 1 false t31_33) fun t32_34 =>
bnd (neqF t32_34 (.int .i64 (.ofNat 0))) fun t33_35 =>
T12c4 t33_35 t7_5 h_12 t2_3)
/-- ratline parse.Expr -/
noncomputable def T12 : TFun := fun _ call _ args h => sEnd (
uncons args fun x0_1 vs_2 =>
unnil vs_2 (bnd2 (allocV [(.int .i64 (.ofNat 0)), (.int .i64 (.ofNat 0)), (.str []), (.int .i64 (.ofNat 0)), .nils] h) fun t2_3 h_4 =>
bnd2 (call 26 [x0_1] h_4) fun t7_5 h_6 =>
bnd2 (call 27 [t7_5, (.int .i64 (.ofNat 1))] h_6) fun t9_7 h_8 =>
bnd2 (storeF h_8 5 t2_3 t9_7) fun _ h_10 =>
T12c5 t7_5 h_10 call t2_3))
theorem r12 : sRun s12 = T12 := by kernel_rfl
theorem e12 (u : Nat → Value → Prop) : TOK Go.Proofs.Tryz.prog (cfg u [] []) 12 T12 := .inr ⟨s12, _, _, _, r12.symm, Go.Proofs.Tryz.func12, k12 u, n12⟩
noncomputable def T13c1 (t2_5 : GVal) (h_35 : GHeap) (t3_7 : GVal) : SRes :=
bnd (fieldAF 4 t2_5) fun t33_46 =>
bnd (loadF h_35 1 false t33_46) fun t34_47 =>
bnd (lenF false t34_47) fun t35_48 =>
bnd (fieldAF 4 t3_7) fun t36_49 =>
bnd (loadF h_35 1 false t36_49) fun t37_50 =>
bnd (lenF false t37_50) fun t38_51 =>
bnd (neqF t35_48 t38_51) fun t39_52 =>
some (SOut.normal [t39_52] h_35)
noncomputable def T13c2 (h_59 : GHeap) (t53_72 : GVal) (x5_60 : GVal) (call : CallF) (t52_71 : GVal) : SRes :=
bnd (loadF h_59 1 false t53_72) fun t54_73 =>
bnd (ixSF 5 t54_73 x5_60) fun t56_74 =>
bnd (loadF h_59 5 true t56_74) fun t57_75 =>
bnd2 (call 13 [t52_71, t57_75] h_59) fun t58_76 h_77 =>
bnd (unF .not t58_76) fun t59_78 =>
sIf t59_78 (
some (SOut.ret (.bool false) h_77)) (
some (SOut.normal [] h_77))
noncomputable def T13c3 (t2_5 : GVal) (h_59 : GHeap) (x5_60 : GVal) (t3_7 : GVal) (call : CallF) : SRes :=
sBlk 1 (bnd (fieldAF 4 t2_5) fun t48_68 =>
bnd (loadF h_59 1 false t48_68) fun t49_69 =>
bnd (ixSF 5 t49_69 x5_60) fun t51_70 =>
bnd (loadF h_59 5 true t51_70) fun t52_71 =>
bnd (fieldAF 4 t3_7) fun t53_72 =>
T13c2 h_59 t53_72 x5_60 call t52_71) fun vs_66 h_67 =>
unnil vs_66 (bnd (catF x5_60 (.int .i64 (.ofNat 1))) fun t47_79 =>
some (SOut.normal [t47_79] h_67))
noncomputable def T13c4 (vs_58 : List GVal) (t2_5 : GVal) (h_59 : GHeap) (t3_7 : GVal) (call : CallF) : SRes :=
uncons vs_58 fun x5_60 vs_61 =>
unnil vs_61 (bnd (fieldAF 4 t2_5) fun t42_62 =>
bnd (loadF h_59 1 false t42_62) fun t43_63 =>
bnd (lenF false t43_63) fun t44_64 =>
bnd (lssF x5_60 t44_64) fun t45_65 =>
sIf t45_65 (
T13c3 t2_5 h_59 x5_60 t3_7 call) (
some (SOut.exit 0 [] h_59)))
noncomputable def T13c5 (t31_43 : GVal) (t2_5 : GVal) (h_35 : GHeap) (t3_7 : GVal) (call : CallF) (n : Nat) : SRes :=
sJoin (gIf t31_43 false (
T13c1 t2_5 h_35 t3_7) (some (SOut.normal [gundef] h_35))) fun vs_44 h_45 =>
uncons vs_44 fun x39_53 vs_54 =>
unnil vs_54 (bnd (pickF t31_43 (.bool true) x39_53) fun t40_55 =>
sIf t40_55 (
some (SOut.ret (.bool false) h_45)) (
sBlk 0 (sLoop (fun vs_58 h_59 =>
T13c4 vs_58 t2_5 h_59 t3_7 call) n [(.int .i64 (.ofNat 0))] h_45) fun vs_56 h_57 =>
unnil vs_56 (some (SOut.ret (.bool true) h_57))))
noncomputable def T13c6 (t24_33 : GVal) (t2_5 : GVal) (h_25 : GHeap) (t3_7 : GVal) (call : CallF) (n : Nat) : SRes :=
sJoin (gIf t24_33 false (
bnd (fieldAF 3 t2_5) fun t26_36 =>
bnd (loadF h_25 1 false t26_36) fun t27_37 =>
bnd (fieldAF 3 t3_7) fun t28_38 =>
bnd (loadF h_25 1 false t28_38) fun t29_39 =>
bnd (neqF t27_37 t29_39) fun t30_40 =>
some (SOut.normal [t30_40] h_25)) (some (SOut.normal [gundef] h_25))) fun vs_34 h_35 =>
uncons vs_34 fun x30_41 vs_42 =>
unnil vs_42 (bnd (pickF t24_33 (.bool true) x30_41) fun t31_43 =>
T13c5 t31_43 t2_5 h_35 t3_7 call n)
noncomputable def T13c7 (t17_23 : GVal) (t2_5 : GVal) (h_15 : GHeap) (t3_7 : GVal) (call : CallF) (n : Nat) : SRes :=
sJoin (gIf t17_23 false (
bnd (fieldAF 2 t2_5) fun t19_26 =>
bnd (loadF h_15 1 false t19_26) fun t20_27 =>
bnd (fieldAF 2 t3_7) fun t21_28 =>
bnd (loadF h_15 1 false t21_28) fun t22_29 =>
bnd (neqF t20_27 t22_29) fun t23_30 =>
some (SOut.normal [t23_30] h_15)) (some (SOut.normal [gundef] h_15))) fun vs_24 h_25 =>
uncons vs_24 fun x23_31 vs_32 =>
unnil vs_32 (bnd (pickF t17_23 (.bool true) x23_31) fun t24_33 =>
T13c6 t24_33 t2_5 h_25 t3_7 call n)
noncomputable def T13c8 (t10_13 : GVal) (t2_5 : GVal) (h_8 : GHeap) (t3_7 : GVal) (call : CallF) (n : Nat) : SRes :=
sJoin (gIf t10_13 false (
bnd (fieldAF 1 t2_5) fun t12_16 =>
bnd (loadF h_8 1 false t12_16) fun t13_17 =>
bnd (fieldAF 1 t3_7) fun t14_18 =>
bnd (loadF h_8 1 false t14_18) fun t15_19 =>
bnd (neqF t13_17 t15_19) fun t16_20 =>
some (SOut.normal [t16_20] h_8)) (some (SOut.normal [gundef] h_8))) fun vs_14 h_15 =>
uncons vs_14 fun x16_21 vs_22 =>
unnil vs_22 (bnd (pickF t10_13 (.bool true) x16_21) fun t17_23 =>
T13c7 t17_23 t2_5 h_15 t3_7 call n)
noncomputable def T13c9 (h : GHeap) (x0_1 : GVal) (x1_3 : GVal) (call : CallF) (n : Nat) : SRes :=
bnd2 (boxF h 5 x0_1) fun t2_5 h_6 =>
bnd2 (boxF h_6 5 x1_3) fun t3_7 h_8 =>
bnd (fieldAF 0 t2_5) fun t6_9 =>
bnd (loadF h_8 1 false t6_9) fun t7_10 =>
bnd (fieldAF 0 t3_7) fun t8_11 =>
bnd (loadF h_8 1 false t8_11) fun t9_12 =>
bnd (neqF t7_10 t9_12) fun t10_13 =>
T13c8 t10_13 t2_5 h_8 t3_7 call n
/-- ratline ratlineref4.SameNode -/
noncomputable def T13 : TFun := fun _ call n args h => sEnd (
uncons args fun x0_1 vs_2 =>
uncons vs_2 fun x1_3 vs_4 =>
unnil vs_4 (T13c9 h x0_1 x1_3 call n))
theorem r13 : sRun s13 = T13 := by kernel_rfl
theorem e13 (u : Nat → Value → Prop) : TOK Go.Proofs.Tryz.prog (cfg u [] []) 13 T13 := .inr ⟨s13, _, _, _, r13.symm, Go.Proofs.Tryz.func13, k13 u, n13⟩
noncomputable def T15c1 (t17_19 : GVal) (h_8 : GHeap) (t9_3 : GVal) : SRes :=
bnd (fieldAF 1 t17_19) fun t18_20 =>
bnd (loadF h_8 1 false t18_20) fun t19_21 =>
bnd (nilChkF t9_3) fun t21_22 =>
bnd (fieldAF 0 t21_22) fun t22_23 =>
bnd (loadF h_8 1 false t22_23) fun t23_24 =>
bnd (lenF false t23_24) fun t24_25 =>
bnd (lssF t19_21 t24_25) fun t25_26 =>
some (SOut.normal [t25_26] h_8)
noncomputable def T15c2 (x6_11 : GVal) (t7_34 : GVal) (h_37 : GHeap) (x2_9 : GVal) : SRes :=
sJoin (gIf x6_11 false (
bnd (fieldAF 1 t7_34) fun t31_40 =>
bnd (loadF h_37 1 false t31_40) fun t32_41 =>
bnd (lenF false t32_41) fun t33_42 =>
bnd (gtrF t33_42 (.int .i64 (.ofNat 8))) fun t34_43 =>
some (SOut.normal [t34_43] h_37)) (some (SOut.normal [gundef] h_37))) fun vs_38 h_39 =>
uncons vs_38 fun x34_44 vs_45 =>
unnil vs_45 (bnd (pickF x6_11 (.bool true) x34_44) fun t35_46 =>
bnd (loadF h_39 7 true t7_34) fun t37_47 =>
bnd (buildSlF (.agg [(.str []), .nils, (.int .i64 (.ofNat 0)), (.int .i64 (.ofNat 0)), (.str []), (.int .i64 (.ofNat 0)), .nils]) 7 1 [(0, t37_47)]) fun t38_48 =>
bnd2 (appendF h_39 7 104 true false x2_9 t38_48) fun t39_49 h_50 =>
some (SOut.normal [t39_49, t35_46] h_50))
noncomputable def T15c3 (t26_29 : GVal) (call : CallF) (t9_3 : GVal) (h_18 : GHeap) (x6_11 : GVal) (x2_9 : GVal) : SRes :=
sIf t26_29 (
sBlk 1 (bnd2 (call 31 [t9_3] h_18) fun t28_32 h_33 =>
bnd2 (allocV [(.str []), .nils, (.int .i64 (.ofNat 0)), (.int .i64 (.ofNat 0)), (.str []), (.int .i64 (.ofNat 0)), .nils] h_33) fun t7_34 h_35 =>
bnd2 (storeF h_35 7 t7_34 t28_32) fun _ h_37 =>
T15c2 x6_11 t7_34 h_37 x2_9) fun vs_30 h_31 =>
uncons vs_30 fun x2_51 vs_52 =>
uncons vs_52 fun x6_53 vs_54 =>
unnil vs_54 (some (SOut.normal [x2_51, x6_53] h_31))) (
some (SOut.exit 0 [x2_9, x6_11] h_18))
noncomputable def T15c4 (h_8 : GHeap) (t12_14 : GVal) (t9_3 : GVal) (call : CallF) (x6_11 : GVal) (x2_9 : GVal) : SRes :=
bnd (loadF h_8 1 false t12_14) fun t13_15 =>
bnd (eqlF t13_15 (.int .i64 (.ofNat 0))) fun t14_16 =>
sJoin (gIf t14_16 true (
bnd (nilChkF t9_3) fun t17_19 =>
T15c1 t17_19 h_8 t9_3) (some (SOut.normal [gundef] h_8))) fun vs_17 h_18 =>
uncons vs_17 fun x25_27 vs_28 =>
unnil vs_28 (bnd (pickF t14_16 x25_27 (.bool false)) fun t26_29 =>
T15c3 t26_29 call t9_3 h_18 x6_11 x2_9)
noncomputable def T15c5 (x6_57 : GVal) (x2_55 : GVal) (h_6 : GHeap) (call : CallF) : SRes :=
sJoin (gIf x6_57 false (
bnd (lenF false x2_55) fun t56_71 =>
bnd (gtrF t56_71 (.int .i64 (.ofNat 16))) fun t57_72 =>
some (SOut.normal [t57_72] h_6)) (some (SOut.normal [gundef] h_6))) fun vs_69 h_70 =>
uncons vs_69 fun x57_73 vs_74 =>
unnil vs_74 (bnd (pickF x6_57 (.bool true) x57_73) fun t58_75 =>
sIf t58_75 (
some (SOut.ret (.tuple [.nils, (.int .i64 (.ofNat 0)), (.int .i64 (.ofNat 65))]) h_70)) (
bnd2 (call 32 [x2_55] h_70) fun t60_76 h_77 =>
some (SOut.ret (.tuple [t60_76, (.int .i64 (.ofNat 0)), (.int .i64 (.ofNat 0))]) h_77)))
noncomputable def T15c6 (t44_62 : GVal) (t9_3 : GVal) (h_6 : GHeap) (x6_57 : GVal) (x2_55 : GVal) (call : CallF) : SRes :=
sIf t44_62 (
bnd (nilChkF t9_3) fun t46_63 =>
bnd (fieldAF 4 t46_63) fun t47_64 =>
bnd (loadF h_6 1 false t47_64) fun t48_65 =>
bnd (nilChkF t9_3) fun t50_66 =>
bnd (fieldAF 5 t50_66) fun t51_67 =>
bnd (loadF h_6 1 false t51_67) fun t52_68 =>
some (SOut.ret (.tuple [.nils, t48_65, t52_68]) h_6)) (
T15c5 x6_57 x2_55 h_6 call)
noncomputable def T15c7 (t9_3 : GVal) (call : CallF) (n : Nat) (h_4 : GHeap) : SRes :=
sBlk 0 (sLoop (fun vs_7 h_8 =>
uncons vs_7 fun x2_9 vs_10 =>
uncons vs_10 fun x6_11 vs_12 =>
unnil vs_12 (bnd (nilChkF t9_3) fun t11_13 =>
bnd (fieldAF 5 t11_13) fun t12_14 =>
T15c4 h_8 t12_14 t9_3 call x6_11 x2_9)) n [.nils, (.bool false)] h_4) fun vs_5 h_6 =>
uncons vs_5 fun x2_55 vs_56 =>
uncons vs_56 fun x6_57 vs_58 =>
unnil vs_58 (bnd (nilChkF t9_3) fun t41_59 =>
bnd (fieldAF 5 t41_59) fun t42_60 =>
bnd (loadF h_6 1 false t42_60) fun t43_61 =>
bnd (neqF t43_61 (.int .i64 (.ofNat 0))) fun t44_62 =>
T15c6 t44_62 t9_3 h_6 x6_57 x2_55 call)
/-- ratline parse.Program -/
noncomputable def T15 : TFun := fun _ call n args h => sEnd (
uncons args fun x0_1 vs_2 =>
unnil vs_2 (bnd2 (call 26 [x0_1] h) fun t9_3 h_4 =>
T15c7 t9_3 call n h_4))
theorem r15 : sRun s15 = T15 := by kernel_rfl
theorem e15 (u : Nat → Value → Prop) : TOK Go.Proofs.Tryz.prog (cfg u [] []) 15 T15 := .inr ⟨s15, _, _, _, r15.symm, Go.Proofs.Tryz.func15, k15 u, n15⟩
noncomputable def T16c1 (t33_41 : GVal) (t7_22 : GVal) (h_35 : GHeap) (call : CallF) (t14_8 : GVal) : SRes :=
sIf t33_41 (
bnd (fieldAF 1 t7_22) fun t35_42 =>
bnd (loadF h_35 1 false t35_42) fun t36_43 =>
bnd2 (call 22 [t36_43, (.str [32, 44, 32])] h_35) fun t37_44 h_45 =>
bnd (buildSlF (.str []) 1 1 [(0, t37_44)]) fun t38_46 =>
bnd2 (call 33 [t14_8, t38_46] h_45) fun _ h_48 =>
some (SOut.normal [] h_48)) (
some (SOut.normal [] h_35))
noncomputable def T16c2 (t7_22 : GVal) (h_35 : GHeap) (call : CallF) (t14_8 : GVal) : SRes :=
sJoin (bnd (fieldAF 1 t7_22) fun t30_38 =>
bnd (loadF h_35 1 false t30_38) fun t31_39 =>
bnd (lenF false t31_39) fun t32_40 =>
bnd (gtrF t32_40 (.int .i64 (.ofNat 0))) fun t33_41 =>
T16c1 t33_41 t7_22 h_35 call t14_8) fun vs_36 h_37 =>
unnil vs_36 (bnd (buildSlF (.str []) 1 1 [(0, (.str [41]))]) fun t41_49 =>
bnd2 (call 33 [t14_8, t41_49] h_37) fun _ h_51 =>
bnd (fieldAF 2 t7_22) fun t44_52 =>
bnd (loadF h_51 5 true t44_52) fun t45_53 =>
bnd2 (call 34 [t14_8, t45_53] h_51) fun _ h_55 =>
some (SOut.normal [] h_55))
noncomputable def T16c3 (call : CallF) (t23_28 : GVal) (t4_3 : GVal) (h_25 : GHeap) (t7_22 : GVal) (t14_8 : GVal) : SRes :=
bnd2 (call 20 [t23_28, (.int .i64 (.ofNat 0)), t4_3] h_25) fun t24_29 h_30 =>
sIf t24_29 (
some (SOut.ret (.tuple [(.str []), (.bool false)]) h_30)) (
bnd (fieldAF 0 t7_22) fun t26_31 =>
bnd (loadF h_30 1 false t26_31) fun t27_32 =>
bnd (buildSlF (.str []) 1 3 [(0, (.str [102, 110])), (1, t27_32), (2, (.str [40]))]) fun t28_33 =>
bnd2 (call 33 [t14_8, t28_33] h_30) fun _ h_35 =>
T16c2 t7_22 h_35 call t14_8)
noncomputable def T16c4 (x0_1 : GVal) (x17_15 : GVal) (h_14 : GHeap) (call : CallF) (t4_3 : GVal) (t14_8 : GVal) : SRes :=
bnd (ixSF 7 x0_1 x17_15) fun t19_20 =>
bnd (loadF h_14 7 true t19_20) fun t20_21 =>
bnd2 (allocV [(.str []), .nils, (.int .i64 (.ofNat 0)), (.int .i64 (.ofNat 0)), (.str []), (.int .i64 (.ofNat 0)), .nils] h_14) fun t7_22 h_23 =>
bnd2 (storeF h_23 7 t7_22 t20_21) fun _ h_25 =>
bnd (fieldAF 2 t7_22) fun t21_26 =>
bnd (loadF h_25 5 true t21_26) fun t22_27 =>
bnd (buildSlF (.agg [(.int .i64 (.ofNat 0)), (.int .i64 (.ofNat 0)), (.str []), (.int .i64 (.ofNat 0)), .nils]) 5 1 [(0, t22_27)]) fun t23_28 =>
T16c3 call t23_28 t4_3 h_25 t7_22 t14_8
noncomputable def T16c5 (t16_10 : GVal) (x0_1 : GVal) (call : CallF) (t4_3 : GVal) (t14_8 : GVal) (n : Nat) (h_9 : GHeap) : SRes :=
sLoop (fun vs_13 h_14 =>
uncons vs_13 fun x17_15 vs_16 =>
unnil vs_16 (bnd (lssF x17_15 t16_10) fun t18_17 =>
sIf t18_17 (
sBlk 1 (T16c4 x0_1 x17_15 h_14 call t4_3 t14_8) fun vs_18 h_19 =>
unnil vs_18 (bnd (catF x17_15 (.int .i64 (.ofNat 1))) fun t47_56 =>
some (SOut.normal [t47_56] h_19))) (
some (SOut.exit 0 [] h_14)))) n [(.int .i64 (.ofNat 0))] h_9
noncomputable def T16c6 (t60_67 : GVal) (call : CallF) (x0_1 : GVal) (t56_64 : GVal) (h_63 : GHeap) (t52_60 : GVal) : SRes :=
sJoin (gIf t60_67 false (
bnd2 (call 37 [x0_1, t56_64, (.func (.func 35) [] [])] h_63) fun t65_70 h_71 =>
bnd (unF .not t65_70) fun t66_72 =>
some (SOut.normal [t66_72] h_71)) (some (SOut.normal [gundef] h_63))) fun vs_68 h_69 =>
uncons vs_68 fun x66_73 vs_74 =>
unnil vs_74 (bnd (pickF t60_67 (.bool true) x66_73) fun t67_75 =>
sIf t67_75 (
some (SOut.ret (.tuple [(.str []), (.bool false)]) h_69)) (
some (SOut.ret (.tuple [t52_60, (.bool true)]) h_69)))
noncomputable def T16c7 (h_12 : GHeap) (t50_58 : GVal) (call : CallF) (x0_1 : GVal) : SRes :=
bnd (loadF h_12 1 false t50_58) fun t51_59 =>
bnd2 (call 22 [t51_59, (.str [32])] h_12) fun t52_60 h_61 =>
bnd2 (call 15 [t52_60] h_61) fun t55_62 h_63 =>
bnd (extrF 0 t55_62) fun t56_64 =>
bnd (extrF 1 t55_62) fun _ =>
bnd (extrF 2 t55_62) fun t58_66 =>
bnd (neqF t58_66 (.int .i64 (.ofNat 0))) fun t60_67 =>
T16c6 t60_67 call x0_1 t56_64 h_63 t52_60
noncomputable def T16c8 (h_4 : GHeap) (t4_3 : GVal) (x0_1 : GVal) (call : CallF) (n : Nat) : SRes :=
bnd2 (storeF h_4 1 t4_3 (.int .i64 (.ofNat 4000))) fun _ h_6 =>
bnd (buildF [.nils] []) fun t13_7 =>
bnd2 (boxF h_6 1 t13_7) fun t14_8 h_9 =>
bnd (lenF false x0_1) fun t16_10 =>
sBlk 0 (T16c5 t16_10 x0_1 call t4_3 t14_8 n h_9) fun vs_11 h_12 =>
unnil vs_11 (bnd (nilChkF t14_8) fun t49_57 =>
bnd (fieldAF 0 t49_57) fun t50_58 =>
T16c7 h_12 t50_58 call x0_1)
/-- ratline parse.Print -/
noncomputable def T16 : TFun := fun _ call n args h => sEnd (
uncons args fun x0_1 vs_2 =>
unnil vs_2 (bnd2 (allocV [(.int .i64 (.ofNat 0))] h) fun t4_3 h_4 =>
T16c8 h_4 t4_3 x0_1 call n))
theorem r16 : sRun s16 = T16 := by kernel_rfl
theorem e16 (u : Nat → Value → Prop) : TOK Go.Proofs.Tryz.prog (cfg u [] []) 16 T16 := .inr ⟨s16, _, _, _, r16.symm, Go.Proofs.Tryz.func16, k16 u, n16⟩
noncomputable def T18c1 (h_11 : GHeap) (t33_28 : GVal) (x1_3 : GVal) (x5_12 : GVal) : SRes :=
bnd (loadF h_11 1 false t33_28) fun t34_29 =>
bnd (lenF false t34_29) fun t35_30 =>
bnd (ixSF 7 x1_3 x5_12) fun t38_31 =>
bnd (fieldAF 1 t38_31) fun t39_32 =>
bnd (loadF h_11 1 false t39_32) fun t40_33 =>
bnd (lenF false t40_33) fun t41_34 =>
bnd (neqF t35_30 t41_34) fun t42_35 =>
some (SOut.normal [t42_35] h_11)
noncomputable def T18c2 (t47_41 : GVal) (h_26 : GHeap) (x1_3 : GVal) (x5_12 : GVal) (call : CallF) : SRes :=
bnd (fieldAF 2 t47_41) fun t48_42 =>
bnd (loadF h_26 5 true t48_42) fun t49_43 =>
bnd (ixSF 7 x1_3 x5_12) fun t52_44 =>
bnd (fieldAF 2 t52_44) fun t53_45 =>
bnd (loadF h_26 5 true t53_45) fun t54_46 =>
bnd2 (call 13 [t49_43, t54_46] h_26) fun t55_47 h_48 =>
bnd (unF .not t55_47) fun t56_49 =>
some (SOut.normal [t56_49] h_48)
noncomputable def T18c3 (t78_71 : GVal) (h_56 : GHeap) (x6_57 : GVal) (t75_70 : GVal) : SRes :=
bnd (fieldAF 1 t78_71) fun t79_72 =>
bnd (loadF h_56 1 false t79_72) fun t80_73 =>
bnd (ixSF 1 t80_73 x6_57) fun t82_74 =>
bnd (loadF h_56 1 false t82_74) fun t83_75 =>
bnd (neqF t75_70 t83_75) fun t84_76 =>
sIf t84_76 (
some (SOut.ret (.bool false) h_56)) (
some (SOut.normal [] h_56))
noncomputable def T18c4 (x0_1 : GVal) (x5_12 : GVal) (h_56 : GHeap) (x6_57 : GVal) (x1_3 : GVal) : SRes :=
sBlk 3 (bnd (ixSF 7 x0_1 x5_12) fun t70_66 =>
bnd (fieldAF 1 t70_66) fun t71_67 =>
bnd (loadF h_56 1 false t71_67) fun t72_68 =>
bnd (ixSF 1 t72_68 x6_57) fun t74_69 =>
bnd (loadF h_56 1 false t74_69) fun t75_70 =>
bnd (ixSF 7 x1_3 x5_12) fun t78_71 =>
T18c3 t78_71 h_56 x6_57 t75_70) fun vs_64 h_65 =>
unnil vs_64 (bnd (catF x6_57 (.int .i64 (.ofNat 1))) fun t67_77 =>
some (SOut.normal [t67_77] h_65))
noncomputable def T18c5 (x0_1 : GVal) (x5_12 : GVal) (h_56 : GHeap) (x6_57 : GVal) (x1_3 : GVal) : SRes :=
bnd (ixSF 7 x0_1 x5_12) fun t61_59 =>
bnd (fieldAF 1 t61_59) fun t62_60 =>
bnd (loadF h_56 1 false t62_60) fun t63_61 =>
bnd (lenF false t63_61) fun t64_62 =>
bnd (lssF x6_57 t64_62) fun t65_63 =>
sIf t65_63 (
T18c4 x0_1 x5_12 h_56 x6_57 x1_3) (
some (SOut.exit 2 [] h_56))
noncomputable def T18c6 (vs_39 : List GVal) (t43_38 : GVal) (h_40 : GHeap) (x0_1 : GVal) (x5_12 : GVal) (x1_3 : GVal) (n : Nat) : SRes :=
uncons vs_39 fun x56_50 vs_51 =>
unnil vs_51 (bnd (pickF t43_38 (.bool true) x56_50) fun t57_52 =>
sIf t57_52 (
some (SOut.ret (.bool false) h_40)) (
sBlk 2 (sLoop (fun vs_55 h_56 =>
uncons vs_55 fun x6_57 vs_58 =>
unnil vs_58 (T18c5 x0_1 x5_12 h_56 x6_57 x1_3)) n [(.int .i64 (.ofNat 0))] h_40) fun vs_53 h_54 =>
unnil vs_53 (some (SOut.normal [] h_54))))
noncomputable def T18c7 (t28_24 : GVal) (x0_1 : GVal) (x5_12 : GVal) (h_11 : GHeap) (x1_3 : GVal) (call : CallF) (n : Nat) : SRes :=
sJoin (gIf t28_24 false (
bnd (ixSF 7 x0_1 x5_12) fun t32_27 =>
bnd (fieldAF 1 t32_27) fun t33_28 =>
T18c1 h_11 t33_28 x1_3 x5_12) (some (SOut.normal [gundef] h_11))) fun vs_25 h_26 =>
uncons vs_25 fun x42_36 vs_37 =>
unnil vs_37 (bnd (pickF t28_24 (.bool true) x42_36) fun t43_38 =>
sJoin (gIf t43_38 false (
bnd (ixSF 7 x0_1 x5_12) fun t47_41 =>
T18c2 t47_41 h_26 x1_3 x5_12 call) (some (SOut.normal [gundef] h_26))) fun vs_39 h_40 =>
T18c6 vs_39 t43_38 h_40 x0_1 x5_12 x1_3 n)
noncomputable def T18c8 (x0_1 : GVal) (x5_12 : GVal) (h_11 : GHeap) (x1_3 : GVal) (call : CallF) (n : Nat) : SRes :=
bnd (ixSF 7 x0_1 x5_12) fun t20_18 =>
bnd (fieldAF 0 t20_18) fun t21_19 =>
bnd (loadF h_11 1 false t21_19) fun t22_20 =>
bnd (ixSF 7 x1_3 x5_12) fun t25_21 =>
bnd (fieldAF 0 t25_21) fun t26_22 =>
bnd (loadF h_11 1 false t26_22) fun t27_23 =>
bnd (neqF t22_20 t27_23) fun t28_24 =>
T18c7 t28_24 x0_1 x5_12 h_11 x1_3 call n
noncomputable def T18c9 (vs_10 : List GVal) (x0_1 : GVal) (h_11 : GHeap) (x1_3 : GVal) (call : CallF) (n : Nat) : SRes :=
uncons vs_10 fun x5_12 vs_13 =>
unnil vs_13 (bnd (lenF false x0_1) fun t14_14 =>
bnd (lssF x5_12 t14_14) fun t15_15 =>
sIf t15_15 (
sBlk 1 (T18c8 x0_1 x5_12 h_11 x1_3 call n) fun vs_16 h_17 =>
unnil vs_16 (bnd (catF x5_12 (.int .i64 (.ofNat 1))) fun t17_78 =>
some (SOut.normal [t17_78] h_17))) (
some (SOut.exit 0 [] h_11)))
noncomputable def T18c10 (x0_1 : GVal) (x1_3 : GVal) (h : GHeap) (call : CallF) (n : Nat) : SRes :=
bnd (lenF false x0_1) fun t8_5 =>
bnd (lenF false x1_3) fun t10_6 =>
bnd (neqF t8_5 t10_6) fun t11_7 =>
sIf t11_7 (
some (SOut.ret (.bool false) h)) (
sBlk 0 (sLoop (fun vs_10 h_11 =>
T18c9 vs_10 x0_1 h_11 x1_3 call n) n [(.int .i64 (.ofNat 0))] h) fun vs_8 h_9 =>
unnil vs_8 (some (SOut.ret (.bool true) h_9)))
/-- ratline ratlineref4.SameFuns -/
noncomputable def T18 : TFun := fun _ call n args h => sEnd (
uncons args fun x0_1 vs_2 =>
uncons vs_2 fun x1_3 vs_4 =>
unnil vs_4 (T18c10 x0_1 x1_3 h call n))
theorem r18 : sRun s18 = T18 := by kernel_rfl
theorem e18 (u : Nat → Value → Prop) : TOK Go.Proofs.Tryz.prog (cfg u [] []) 18 T18 := .inr ⟨s18, _, _, _, r18.symm, Go.Proofs.Tryz.func18, k18 u, n18⟩
noncomputable def T20c1 (t25_32 : GVal) (t8_20 : GVal) (h_29 : GHeap) (x1_3 : GVal) (call : CallF) (x2_5 : GVal) : SRes :=
sJoin (gIf t25_32 false (
bnd (fieldAF 4 t8_20) fun t27_35 =>
bnd (loadF h_29 1 false t27_35) fun t28_36 =>
bnd (catF x1_3 (.int .i64 (.ofNat 1))) fun t30_37 =>
bnd2 (call 20 [t28_36, t30_37, x2_5] h_29) fun t32_38 h_39 =>
some (SOut.normal [t32_38] h_39)) (some (SOut.normal [gundef] h_29))) fun vs_33 h_34 =>
uncons vs_33 fun x32_40 vs_41 =>
unnil vs_41 (bnd (pickF t25_32 (.bool true) x32_40) fun t33_42 =>
sIf t33_42 (
some (SOut.ret (.bool true) h_34)) (
some (SOut.normal [] h_34)))
noncomputable def T20c2 (h_23 : GHeap) (t18_24 : GVal) (x2_5 : GVal) (t8_20 : GVal) (x1_3 : GVal) (call : CallF) : SRes :=
bnd (loadF h_23 1 false t18_24) fun t19_25 =>
bnd (gBin .sub t19_25 (.int .i64 (.ofNat 1))) fun t20_26 =>
bnd (nilChkF x2_5) fun t21_27 =>
bnd2 (storeF h_23 1 t21_27 t20_26) fun _ h_29 =>
bnd (nilChkF x2_5) fun t23_30 =>
bnd (loadF h_29 1 false t23_30) fun t24_31 =>
bnd (lssF t24_31 (.int .i64 (.ofNat 0))) fun t25_32 =>
T20c1 t25_32 t8_20 h_29 x1_3 call x2_5
noncomputable def T20c3 (x0_1 : GVal) (x13_13 : GVal) (h_12 : GHeap) (x2_5 : GVal) (x1_3 : GVal) (call : CallF) : SRes :=
sBlk 1 (bnd (ixSF 5 x0_1 x13_13) fun t15_18 =>
bnd (loadF h_12 5 true t15_18) fun t16_19 =>
bnd2 (allocV [(.int .i64 (.ofNat 0)), (.int .i64 (.ofNat 0)), (.str []), (.int .i64 (.ofNat 0)), .nils] h_12) fun t8_20 h_21 =>
bnd2 (storeF h_21 5 t8_20 t16_19) fun _ h_23 =>
bnd (nilChkF x2_5) fun t18_24 =>
T20c2 h_23 t18_24 x2_5 t8_20 x1_3 call) fun vs_16 h_17 =>
unnil vs_16 (bnd (catF x13_13 (.int .i64 (.ofNat 1))) fun t34_43 =>
some (SOut.normal [t34_43] h_17))
noncomputable def T20c4 (x0_1 : GVal) (x2_5 : GVal) (x1_3 : GVal) (call : CallF) (n : Nat) (h : GHeap) : SRes :=
bnd (lenF false x0_1) fun t12_8 =>
sBlk 0 (sLoop (fun vs_11 h_12 =>
uncons vs_11 fun x13_13 vs_14 =>
unnil vs_14 (bnd (lssF x13_13 t12_8) fun t14_15 =>
sIf t14_15 (
T20c3 x0_1 x13_13 h_12 x2_5 x1_3 call) (
some (SOut.exit 0 [] h_12)))) n [(.int .i64 (.ofNat 0))] h) fun vs_9 h_10 =>
unnil vs_9 (some (SOut.ret (.bool false) h_10))
/-- ratline parse.great -/
noncomputable def T20 : TFun := fun _ call n args h => sEnd (
uncons args fun x0_1 vs_2 =>
uncons vs_2 fun x1_3 vs_4 =>
uncons vs_4 fun x2_5 vs_6 =>
unnil vs_6 (bnd (gtrF x1_3 (.int .i64 (.ofNat 4000))) fun t10_7 =>
sIf t10_7 (
some (SOut.ret (.bool true) h)) (
T20c4 x0_1 x2_5 x1_3 call n h)))
theorem r20 : sRun s20 = T20 := by kernel_rfl
theorem e20 (u : Nat → Value → Prop) : TOK Go.Proofs.Tryz.prog (cfg u [] []) 20 T20 := .inr ⟨s20, _, _, _, r20.symm, Go.Proofs.Tryz.func20, k20 u, n20⟩
noncomputable def T21c1 (t9_12 : GVal) (call : CallF) (x0_1 : GVal) (h_11 : GHeap) (t4_7 : GVal) : SRes :=
sIf t9_12 (
bnd (buildSlF (.str []) 1 1 [(0, (.str [40]))]) fun t11_13 =>
bnd2 (call 33 [x0_1, t11_13] h_11) fun _ h_15 =>
bnd (loadF h_15 5 true t4_7) fun t14_16 =>
bnd2 (call 40 [x0_1, t14_16] h_15) fun _ h_18 =>
bnd (buildSlF (.str []) 1 1 [(0, (.str [41]))]) fun t17_19 =>
bnd2 (call 33 [x0_1, t17_19] h_18) fun _ h_21 =>
some (SOut.ret (.tuple []) h_21)) (
bnd (loadF h_11 5 true t4_7) fun t20_22 =>
bnd2 (call 40 [x0_1, t20_22] h_11) fun _ h_24 =>
some (SOut.ret (.tuple []) h_24))
/--   ratline parse.printer .node -/
noncomputable def T21 : TFun := fun _ call _ args h => sEnd (
uncons args fun x0_1 vs_2 =>
uncons vs_2 fun x1_3 vs_4 =>
uncons vs_4 fun x2_5 vs_6 =>
unnil vs_6 (bnd2 (boxF h 5 x1_3) fun t4_7 h_8 =>
bnd (loadF h_8 5 true t4_7) fun t6_9 =>
bnd2 (call 39 [t6_9] h_8) fun t7_10 h_11 =>
bnd (lssF t7_10 x2_5) fun t9_12 =>
T21c1 t9_12 call x0_1 h_11 t4_7))
theorem r21 : sRun s21 = T21 := by kernel_rfl
theorem e21 (u : Nat → Value → Prop) : TOK Go.Proofs.Tryz.prog (cfg u [] []) 21 T21 := .inr ⟨s21, _, _, _, r21.symm, Go.Proofs.Tryz.func21, k21 u, n21⟩
noncomputable def T23c1 (t30_43 : GVal) (t2_5 : GVal) (h_35 : GHeap) (t3_7 : GVal) (call : CallF) : SRes :=
sJoin (gIf t30_43 true (
bnd (fieldAF 4 t2_5) fun t32_46 =>
bnd (loadF h_35 1 false t32_46) fun t33_47 =>
bnd (fieldAF 4 t3_7) fun t34_48 =>
bnd (loadF h_35 1 false t34_48) fun t35_49 =>
bnd2 (call 44 [t33_47, t35_49, (.func (.func 23) [] [])] h_35) fun t36_50 h_51 =>
some (SOut.normal [t36_50] h_51)) (some (SOut.normal [gundef] h_35))) fun vs_44 h_45 =>
uncons vs_44 fun x36_52 vs_53 =>
unnil vs_53 (bnd (pickF t30_43 x36_52 (.bool false)) fun t37_54 =>
some (SOut.ret t37_54 h_45))
noncomputable def T23c2 (t23_33 : GVal) (t2_5 : GVal) (h_25 : GHeap) (t3_7 : GVal) (call : CallF) : SRes :=
sJoin (gIf t23_33 true (
bnd (fieldAF 3 t2_5) fun t25_36 =>
bnd (loadF h_25 1 false t25_36) fun t26_37 =>
bnd (fieldAF 3 t3_7) fun t27_38 =>
bnd (loadF h_25 1 false t27_38) fun t28_39 =>
bnd (eqlF t26_37 t28_39) fun t29_40 =>
some (SOut.normal [t29_40] h_25)) (some (SOut.normal [gundef] h_25))) fun vs_34 h_35 =>
uncons vs_34 fun x29_41 vs_42 =>
unnil vs_42 (bnd (pickF t23_33 x29_41 (.bool false)) fun t30_43 =>
T23c1 t30_43 t2_5 h_35 t3_7 call)
noncomputable def T23c3 (t16_23 : GVal) (t2_5 : GVal) (h_15 : GHeap) (t3_7 : GVal) (call : CallF) : SRes :=
sJoin (gIf t16_23 true (
bnd (fieldAF 2 t2_5) fun t18_26 =>
bnd (loadF h_15 1 false t18_26) fun t19_27 =>
bnd (fieldAF 2 t3_7) fun t20_28 =>
bnd (loadF h_15 1 false t20_28) fun t21_29 =>
bnd (eqlF t19_27 t21_29) fun t22_30 =>
some (SOut.normal [t22_30] h_15)) (some (SOut.normal [gundef] h_15))) fun vs_24 h_25 =>
uncons vs_24 fun x22_31 vs_32 =>
unnil vs_32 (bnd (pickF t16_23 x22_31 (.bool false)) fun t23_33 =>
T23c2 t23_33 t2_5 h_25 t3_7 call)
noncomputable def T23c4 (t9_13 : GVal) (t2_5 : GVal) (h_8 : GHeap) (t3_7 : GVal) (call : CallF) : SRes :=
sJoin (gIf t9_13 true (
bnd (fieldAF 1 t2_5) fun t11_16 =>
bnd (loadF h_8 1 false t11_16) fun t12_17 =>
bnd (fieldAF 1 t3_7) fun t13_18 =>
bnd (loadF h_8 1 false t13_18) fun t14_19 =>
bnd (eqlF t12_17 t14_19) fun t15_20 =>
some (SOut.normal [t15_20] h_8)) (some (SOut.normal [gundef] h_8))) fun vs_14 h_15 =>
uncons vs_14 fun x15_21 vs_22 =>
unnil vs_22 (bnd (pickF t9_13 x15_21 (.bool false)) fun t16_23 =>
T23c3 t16_23 t2_5 h_15 t3_7 call)
noncomputable def T23c5 (h : GHeap) (x0_1 : GVal) (x1_3 : GVal) (call : CallF) : SRes :=
bnd2 (boxF h 5 x0_1) fun t2_5 h_6 =>
bnd2 (boxF h_6 5 x1_3) fun t3_7 h_8 =>
bnd (fieldAF 0 t2_5) fun t5_9 =>
bnd (loadF h_8 1 false t5_9) fun t6_10 =>
bnd (fieldAF 0 t3_7) fun t7_11 =>
bnd (loadF h_8 1 false t7_11) fun t8_12 =>
bnd (eqlF t6_10 t8_12) fun t9_13 =>
T23c4 t9_13 t2_5 h_8 t3_7 call
/-- ratline parse.same -/
noncomputable def T23 : TFun := fun _ call _ args h => sEnd (
uncons args fun x0_1 vs_2 =>
uncons vs_2 fun x1_3 vs_4 =>
unnil vs_4 (T23c5 h x0_1 x1_3 call))
theorem r23 : sRun s23 = T23 := by kernel_rfl
theorem e23 (u : Nat → Value → Prop) : TOK Go.Proofs.Tryz.prog (cfg u [] []) 23 T23 := .inr ⟨s23, _, _, _, r23.symm, Go.Proofs.Tryz.func23, k23 u, n23⟩
noncomputable def T26c1 (call : CallF) (x0_1 : GVal) (h : GHeap) : SRes :=
bnd2 (call 53 [x0_1] h) fun t8_3 h_4 =>
bnd (extrF 0 t8_3) fun t9_5 =>
bnd (extrF 1 t8_3) fun t10_6 =>
bnd (extrF 2 t8_3) fun t11_7 =>
bnd (lenF true x0_1) fun t14_8 =>
bnd (buildF [.nils, (.int .i64 (.ofNat 0)), (.int .i64 (.ofNat 0)), (.int .i64 (.ofNat 0)), (.int .i64 (.ofNat 0)), (.int .i64 (.ofNat 0))] [(0, 1, t9_5), (2, 1, t14_8), (4, 1, t10_6), (5, 1, t11_7)]) fun t17_9 =>
bnd2 (boxF h_4 6 t17_9) fun t18_10 h_11 =>
some (SOut.ret t18_10 h_11)
/-- ratline parse.begin -/
noncomputable def T26 : TFun := fun _ call _ args h => sEnd (
uncons args fun x0_1 vs_2 =>
unnil vs_2 (T26c1 call x0_1 h))
theorem r26 : sRun s26 = T26 := by kernel_rfl
theorem e26 (u : Nat → Value → Prop) : TOK Go.Proofs.Tryz.prog (cfg u [] []) 26 T26 := .inr ⟨s26, _, _, _, r26.symm, Go.Proofs.Tryz.func26, k26 u, n26⟩
noncomputable def T27c1 (t20_23 : GVal) (call : CallF) (x0_1 : GVal) (x1_3 : GVal) (h_6 : GHeap) (t4_5 : GVal) : SRes :=
sIf t20_23 (
bnd2 (call 55 [x0_1, x1_3] h_6) fun t23_24 h_25 =>
bnd2 (storeF h_25 5 t4_5 t23_24) fun _ h_27 =>
bnd (loadF h_27 5 true t4_5) fun r_28 =>
some (SOut.ret r_28 h_27)) (
bnd (eqlF x1_3 (.int .i64 (.ofNat 6))) fun t26_29 =>
sIf t26_29 (
bnd2 (call 56 [x0_1] h_6) fun t28_30 h_31 =>
bnd2 (storeF h_31 5 t4_5 t28_30) fun _ h_33 =>
bnd (loadF h_33 5 true t4_5) fun r_34 =>
some (SOut.ret r_34 h_33)) (
some (SOut.normal [] h_6)))
noncomputable def T27c2 (x1_3 : GVal) (call : CallF) (x0_1 : GVal) (h_6 : GHeap) (t4_5 : GVal) : SRes :=
bnd (leqF x1_3 (.int .i64 (.ofNat 2))) fun t14_17 =>
sIf t14_17 (
bnd2 (call 54 [x0_1, x1_3] h_6) fun t17_18 h_19 =>
bnd2 (storeF h_19 5 t4_5 t17_18) fun _ h_21 =>
bnd (loadF h_21 5 true t4_5) fun r_22 =>
some (SOut.ret r_22 h_21)) (
bnd (lssF x1_3 (.int .i64 (.ofNat 6))) fun t20_23 =>
T27c1 t20_23 call x0_1 x1_3 h_6 t4_5)
noncomputable def T27c3 (h_6 : GHeap) (t8_10 : GVal) (t4_5 : GVal) (x1_3 : GVal) (call : CallF) (x0_1 : GVal) : SRes :=
bnd (loadF h_6 1 false t8_10) fun t9_11 =>
bnd (neqF t9_11 (.int .i64 (.ofNat 0))) fun t10_12 =>
sIf t10_12 (
bnd (buildF [(.int .i64 (.ofNat 0)), (.int .i64 (.ofNat 0)), (.str []), (.int .i64 (.ofNat 0)), .nils] []) fun t11_13 =>
bnd2 (storeF h_6 5 t4_5 t11_13) fun _ h_15 =>
bnd (loadF h_15 5 true t4_5) fun r_16 =>
some (SOut.ret r_16 h_15)) (
T27c2 x1_3 call x0_1 h_6 t4_5)
noncomputable def T27c4 (h : GHeap) (x0_1 : GVal) (x1_3 : GVal) (call : CallF) : SRes :=
bnd2 (allocV [(.int .i64 (.ofNat 0)), (.int .i64 (.ofNat 0)), (.str []), (.int .i64 (.ofNat 0)), .nils] h) fun t4_5 h_6 =>
sBlk 0 (bnd (nilChkF x0_1) fun t7_9 =>
bnd (fieldAF 5 t7_9) fun t8_10 =>
T27c3 h_6 t8_10 t4_5 x1_3 call x0_1) fun vs_7 h_8 =>
unnil vs_7 (bnd2 (call 57 [x0_1] h_8) fun t30_35 h_36 =>
bnd2 (storeF h_36 5 t4_5 t30_35) fun _ h_38 =>
bnd (loadF h_38 5 true t4_5) fun r_39 =>
some (SOut.ret r_39 h_38))
/--   ratline parse.parser .level -/
noncomputable def T27 : TFun := fun _ call _ args h => sEnd (
uncons args fun x0_1 vs_2 =>
uncons vs_2 fun x1_3 vs_4 =>
unnil vs_4 (T27c4 h x0_1 x1_3 call))
theorem r27 : sRun s27 = T27 := by kernel_rfl
theorem e27 (u : Nat → Value → Prop) : TOK Go.Proofs.Tryz.prog (cfg u [] []) 27 T27 := .inr ⟨s27, _, _, _, r27.symm, Go.Proofs.Tryz.func27, k27 u, n27⟩
noncomputable def T28c1 (h_19 : GHeap) (t37_32 : GVal) (t34_30 : GVal) (x0_1 : GVal) : SRes :=
bnd (loadF h_19 1 false t37_32) fun t38_33 =>
bnd (ixSF 4 t34_30 t38_33) fun t39_34 =>
bnd (fieldAF 3 t39_34) fun t40_35 =>
bnd (loadF h_19 1 false t40_35) fun t41_36 =>
bnd (nilChkF x0_1) fun t42_37 =>
bnd (fieldAF 4 t42_37) fun t43_38 =>
bnd2 (storeF h_19 1 t43_38 t41_36) fun _ h_40 =>
some (SOut.ret (.tuple []) h_40)
noncomputable def T28c2 (t29_27 : GVal) (x0_1 : GVal) (h_19 : GHeap) : SRes :=
sIf t29_27 (
bnd (nilChkF x0_1) fun t32_28 =>
bnd (fieldAF 0 t32_28) fun t33_29 =>
bnd (loadF h_19 1 false t33_29) fun t34_30 =>
bnd (nilChkF x0_1) fun t36_31 =>
bnd (fieldAF 1 t36_31) fun t37_32 =>
T28c1 h_19 t37_32 t34_30 x0_1) (
some (SOut.ret (.tuple []) h_19))
noncomputable def T28c3 (t21_20 : GVal) (h_19 : GHeap) (x0_1 : GVal) : SRes :=
bnd (fieldAF 1 t21_20) fun t22_21 =>
bnd (loadF h_19 1 false t22_21) fun t23_22 =>
bnd (nilChkF x0_1) fun t25_23 =>
bnd (fieldAF 0 t25_23) fun t26_24 =>
bnd (loadF h_19 1 false t26_24) fun t27_25 =>
bnd (lenF false t27_25) fun t28_26 =>
bnd (lssF t23_22 t28_26) fun t29_27 =>
T28c2 t29_27 x0_1 h_19
noncomputable def T28c4 (x0_1 : GVal) (h : GHeap) (x1_3 : GVal) (t15_11 : GVal) : SRes :=
bnd (nilChkF x0_1) fun t16_12 =>
bnd (fieldAF 5 t16_12) fun t17_13 =>
bnd2 (storeF h 1 t17_13 x1_3) fun _ h_15 =>
bnd (nilChkF x0_1) fun t18_16 =>
bnd (fieldAF 4 t18_16) fun t19_17 =>
bnd2 (storeF h_15 1 t19_17 t15_11) fun _ h_19 =>
bnd (nilChkF x0_1) fun t21_20 =>
T28c3 t21_20 h_19 x0_1
noncomputable def T28c5 (h : GHeap) (t6_6 : GVal) (x0_1 : GVal) (x1_3 : GVal) : SRes :=
bnd (loadF h 1 false t6_6) fun t7_7 =>
bnd (neqF t7_7 (.int .i64 (.ofNat 0))) fun t8_8 =>
sIf t8_8 (
some (SOut.ret (.tuple []) h)) (
bnd (nilChkF x0_1) fun t13_9 =>
bnd (fieldAF 2 t13_9) fun t14_10 =>
bnd (loadF h 1 false t14_10) fun t15_11 =>
T28c4 x0_1 h x1_3 t15_11)
/--   ratline parse.parser .wrong -/
noncomputable def T28 : TFun := fun _ _ _ args h => sEnd (
uncons args fun x0_1 vs_2 =>
uncons vs_2 fun x1_3 vs_4 =>
unnil vs_4 (bnd (nilChkF x0_1) fun t5_5 =>
bnd (fieldAF 5 t5_5) fun t6_6 =>
T28c5 h t6_6 x0_1 x1_3))
theorem r28 : sRun s28 = T28 := by kernel_rfl
theorem e28 (u : Nat → Value → Prop) : TOK Go.Proofs.Tryz.prog (cfg u [] []) 28 T28 := .inr ⟨s28, _, _, _, r28.symm, Go.Proofs.Tryz.func28, k28 u, n28⟩
noncomputable def T31c1 (h_33 : GHeap) (t28_43 : GVal) (call : CallF) (x0_1 : GVal) (t3_15 : GVal) : SRes :=
bnd (loadF h_33 1 false t28_43) fun t29_44 =>
bnd2 (call 69 [x0_1] h_33) fun t31_45 h_46 =>
bnd (buildSlF (.str []) 1 1 [(0, t31_45)]) fun t32_47 =>
bnd2 (appendF h_46 1 16 false false t29_44 t32_47) fun t33_48 h_49 =>
bnd (fieldAF 1 t3_15) fun t34_50 =>
bnd2 (storeF h_49 1 t34_50 t33_48) fun _ h_52 =>
guardS (((chkV (loadV h_46 1 false t28_43) t29_44) && true) && true) (
some (SOut.normal [] h_52))
noncomputable def T31c2 (vs_32 : List GVal) (x4_30 : GVal) (t3_15 : GVal) (h_33 : GHeap) (call : CallF) (x0_1 : GVal) : SRes :=
uncons vs_32 fun x24_38 vs_39 =>
unnil vs_39 (bnd (pickF x4_30 x24_38 (.bool false)) fun t25_40 =>
sIf t25_40 (
sBlk 1 (bnd (fieldAF 1 t3_15) fun t28_43 =>
T31c1 h_33 t28_43 call x0_1 t3_15) fun vs_41 h_42 =>
unnil vs_41 (bnd2 (call 71 [x0_1, (.str [44])] h_42) fun t27_53 h_54 =>
some (SOut.normal [t27_53] h_54))) (
some (SOut.exit 0 [] h_33)))
noncomputable def T31c3 (vs_28 : List GVal) (x0_1 : GVal) (h_29 : GHeap) (t3_15 : GVal) (call : CallF) : SRes :=
uncons vs_28 fun x4_30 vs_31 =>
unnil vs_31 (sJoin (gIf x4_30 true (
bnd (nilChkF x0_1) fun t21_34 =>
bnd (fieldAF 5 t21_34) fun t22_35 =>
bnd (loadF h_29 1 false t22_35) fun t23_36 =>
bnd (eqlF t23_36 (.int .i64 (.ofNat 0))) fun t24_37 =>
some (SOut.normal [t24_37] h_29)) (some (SOut.normal [gundef] h_29))) fun vs_32 h_33 =>
T31c2 vs_32 x4_30 t3_15 h_33 call x0_1)
noncomputable def T31c4 (call : CallF) (x0_1 : GVal) (h_20 : GHeap) (t3_15 : GVal) (n : Nat) : SRes :=
bnd2 (call 71 [x0_1, (.str [41])] h_20) fun t16_23 h_24 =>
bnd (unF .not t16_23) fun t17_25 =>
sIf t17_25 (
sBlk 0 (sLoop (fun vs_28 h_29 =>
T31c3 vs_28 x0_1 h_29 t3_15 call) n [(.bool true)] h_24) fun vs_26 h_27 =>
unnil vs_26 (bnd2 (call 70 [x0_1, (.str [41])] h_27) fun _ h_56 =>
some (SOut.normal [] h_56))) (
some (SOut.normal [] h_24))
noncomputable def T31c5 (call : CallF) (x0_1 : GVal) (h_20 : GHeap) (t3_15 : GVal) (n : Nat) (t2_3 : GVal) : SRes :=
sJoin (T31c4 call x0_1 h_20 t3_15 n) fun vs_21 h_22 =>
unnil vs_21 (bnd2 (call 72 [x0_1] h_22) fun t38_57 h_58 =>
bnd (fieldAF 2 t3_15) fun t39_59 =>
bnd2 (storeF h_58 5 t39_59 t38_57) fun _ h_61 =>
bnd (loadF h_61 7 true t3_15) fun t40_62 =>
bnd2 (storeF h_61 7 t2_3 t40_62) fun _ h_64 =>
bnd (loadF h_64 7 true t2_3) fun r_65 =>
some (SOut.ret r_65 h_64))
noncomputable def T31c6 (call : CallF) (x0_1 : GVal) (h_4 : GHeap) (n : Nat) (t2_3 : GVal) : SRes :=
sJoin (bnd2 (call 68 [x0_1, (.str [102, 110])] h_4) fun t6_7 h_8 =>
bnd (unF .not t6_7) fun t7_9 =>
sIf t7_9 (
bnd2 (call 28 [x0_1, (.int .i64 (.ofNat 10))] h_8) fun _ h_11 =>
some (SOut.normal [] h_11)) (
some (SOut.normal [] h_8))) fun vs_5 h_6 =>
unnil vs_5 (bnd2 (call 69 [x0_1] h_6) fun t11_12 h_13 =>
bnd (buildF [(.str []), .nils, (.int .i64 (.ofNat 0)), (.int .i64 (.ofNat 0)), (.str []), (.int .i64 (.ofNat 0)), .nils] [(0, 1, t11_12)]) fun t12_14 =>
bnd2 (allocV [(.str []), .nils, (.int .i64 (.ofNat 0)), (.int .i64 (.ofNat 0)), (.str []), (.int .i64 (.ofNat 0)), .nils] h_13) fun t3_15 h_16 =>
bnd2 (storeF h_16 7 t3_15 t12_14) fun _ h_18 =>
bnd2 (call 70 [x0_1, (.str [40])] h_18) fun _ h_20 =>
T31c5 call x0_1 h_20 t3_15 n t2_3)
/--   ratline parse.parser .fun -/
noncomputable def T31 : TFun := fun _ call n args h => sEnd (
uncons args fun x0_1 vs_2 =>
unnil vs_2 (bnd2 (allocV [(.str []), .nils, (.int .i64 (.ofNat 0)), (.int .i64 (.ofNat 0)), (.str []), (.int .i64 (.ofNat 0)), .nils] h) fun t2_3 h_4 =>
T31c6 call x0_1 h_4 n t2_3))
theorem r31 : sRun s31 = T31 := by kernel_rfl
theorem e31 (u : Nat → Value → Prop) : TOK Go.Proofs.Tryz.prog (cfg u [] []) 31 T31 := .inr ⟨s31, _, _, _, r31.symm, Go.Proofs.Tryz.func31, k31 u, n31⟩
/-- slices.Clip   ratline api.Fun ratline api.Fun  -/
noncomputable def T32 : TFun := fun _ _ _ args h => sEnd (
uncons args fun x0_1 vs_2 =>
unnil vs_2 (bnd (lenF false x0_1) fun t5_3 =>
bnd (lenF false x0_1) fun t7_4 =>
bnd (sliceSlV 7 x0_1 none (some t5_3) (some t7_4)) fun t8_5 =>
some (SOut.ret t8_5 h)))
theorem r32 : sRun s32 = T32 := by kernel_rfl
theorem e32 (u : Nat → Value → Prop) : TOK Go.Proofs.Tryz.prog (cfg u [] []) 32 T32 := .inr ⟨s32, _, _, _, r32.symm, Go.Proofs.Tryz.func32, k32 u, n32⟩
noncomputable def T33c1 (x0_1 : GVal) (h : GHeap) (x1_3 : GVal) : SRes :=
bnd (nilChkF x0_1) fun t6_5 =>
bnd (fieldAF 0 t6_5) fun t7_6 =>
bnd (loadF h 1 false t7_6) fun t8_7 =>
bnd2 (appendF h 1 16 false false t8_7 x1_3) fun t10_8 h_9 =>
bnd (nilChkF x0_1) fun t11_10 =>
bnd (fieldAF 0 t11_10) fun t12_11 =>
bnd2 (storeF h_9 1 t12_11 t10_8) fun _ h_13 =>
some (SOut.ret (.tuple []) h_13)
/--   ratline parse.printer .put -/
noncomputable def T33 : TFun := fun _ _ _ args h => sEnd (
uncons args fun x0_1 vs_2 =>
uncons vs_2 fun x1_3 vs_4 =>
unnil vs_4 (T33c1 x0_1 h x1_3))
theorem r33 : sRun s33 = T33 := by kernel_rfl
theorem e33 (u : Nat → Value → Prop) : TOK Go.Proofs.Tryz.prog (cfg u [] []) 33 T33 := .inr ⟨s33, _, _, _, r33.symm, Go.Proofs.Tryz.func33, k33 u, n33⟩
noncomputable def T34c1 (t10_11 : GVal) (x12_17 : GVal) (h_16 : GHeap) (call : CallF) (x0_1 : GVal) : SRes :=
sBlk 1 (bnd (ixSF 5 t10_11 x12_17) fun t14_22 =>
bnd (loadF h_16 5 true t14_22) fun t15_23 =>
bnd2 (allocV [(.int .i64 (.ofNat 0)), (.int .i64 (.ofNat 0)), (.str []), (.int .i64 (.ofNat 0)), .nils] h_16) fun t5_24 h_25 =>
bnd2 (storeF h_25 5 t5_24 t15_23) fun _ h_27 =>
bnd (loadF h_27 5 true t5_24) fun t17_28 =>
bnd2 (call 73 [x0_1, t17_28] h_27) fun _ h_30 =>
some (SOut.normal [] h_30)) fun vs_20 h_21 =>
unnil vs_20 (bnd (catF x12_17 (.int .i64 (.ofNat 1))) fun t19_31 =>
some (SOut.normal [t19_31] h_21))
noncomputable def T34c2 (t11_12 : GVal) (t10_11 : GVal) (call : CallF) (x0_1 : GVal) (n : Nat) (h_9 : GHeap) : SRes :=
sBlk 0 (sLoop (fun vs_15 h_16 =>
uncons vs_15 fun x12_17 vs_18 =>
unnil vs_18 (bnd (lssF x12_17 t11_12) fun t13_19 =>
sIf t13_19 (
T34c1 t10_11 x12_17 h_16 call x0_1) (
some (SOut.exit 0 [] h_16)))) n [(.int .i64 (.ofNat 0))] h_9) fun vs_13 h_14 =>
unnil vs_13 (bnd (buildSlF (.str []) 1 1 [(0, (.str [125]))]) fun t21_32 =>
bnd2 (call 33 [x0_1, t21_32] h_14) fun _ h_34 =>
some (SOut.ret (.tuple []) h_34))
/--   ratline parse.printer .block -/
noncomputable def T34 : TFun := fun _ call n args h => sEnd (
uncons args fun x0_1 vs_2 =>
uncons vs_2 fun x1_3 vs_4 =>
unnil vs_4 (bnd2 (boxF h 5 x1_3) fun t3_5 h_6 =>
bnd (buildSlF (.str []) 1 1 [(0, (.str [123]))]) fun t7_7 =>
bnd2 (call 33 [x0_1, t7_7] h_6) fun _ h_9 =>
bnd (fieldAF 4 t3_5) fun t9_10 =>
bnd (loadF h_9 1 false t9_10) fun t10_11 =>
bnd (lenF false t10_11) fun t11_12 =>
T34c2 t11_12 t10_11 call x0_1 n h_9))
theorem r34 : sRun s34 = T34 := by kernel_rfl
theorem e34 (u : Nat → Value → Prop) : TOK Go.Proofs.Tryz.prog (cfg u [] []) 34 T34 := .inr ⟨s34, _, _, _, r34.symm, Go.Proofs.Tryz.func34, k34 u, n34⟩
noncomputable def T35c1 (t16_24 : GVal) (t2_5 : GVal) (h_15 : GHeap) (t3_7 : GVal) (call : CallF) : SRes :=
sJoin (gIf t16_24 true (
bnd (fieldAF 2 t2_5) fun t18_27 =>
bnd (loadF h_15 5 true t18_27) fun t19_28 =>
bnd (fieldAF 2 t3_7) fun t20_29 =>
bnd (loadF h_15 5 true t20_29) fun t21_30 =>
bnd2 (call 23 [t19_28, t21_30] h_15) fun t22_31 h_32 =>
some (SOut.normal [t22_31] h_32)) (some (SOut.normal [gundef] h_15))) fun vs_25 h_26 =>
uncons vs_25 fun x22_33 vs_34 =>
unnil vs_34 (bnd (pickF t16_24 x22_33 (.bool false)) fun t23_35 =>
some (SOut.ret t23_35 h_26))
noncomputable def T35c2 (t9_13 : GVal) (t2_5 : GVal) (h_8 : GHeap) (t3_7 : GVal) (call : CallF) : SRes :=
sJoin (gIf t9_13 true (
bnd (fieldAF 1 t2_5) fun t11_16 =>
bnd (loadF h_8 1 false t11_16) fun t12_17 =>
bnd (fieldAF 1 t3_7) fun t13_18 =>
bnd (loadF h_8 1 false t13_18) fun t14_19 =>
bnd2 (call 36 [t12_17, t14_19] h_8) fun t15_20 h_21 =>
some (SOut.normal [t15_20] h_21)) (some (SOut.normal [gundef] h_8))) fun vs_14 h_15 =>
uncons vs_14 fun x15_22 vs_23 =>
unnil vs_23 (bnd (pickF t9_13 x15_22 (.bool false)) fun t16_24 =>
T35c1 t16_24 t2_5 h_15 t3_7 call)
noncomputable def T35c3 (h : GHeap) (x0_1 : GVal) (x1_3 : GVal) (call : CallF) : SRes :=
bnd2 (boxF h 7 x0_1) fun t2_5 h_6 =>
bnd2 (boxF h_6 7 x1_3) fun t3_7 h_8 =>
bnd (fieldAF 0 t2_5) fun t5_9 =>
bnd (loadF h_8 1 false t5_9) fun t6_10 =>
bnd (fieldAF 0 t3_7) fun t7_11 =>
bnd (loadF h_8 1 false t7_11) fun t8_12 =>
bnd (eqlF t6_10 t8_12) fun t9_13 =>
T35c2 t9_13 t2_5 h_8 t3_7 call
/-- ratline parse.Print$1 -/
noncomputable def T35 : TFun := fun _ call _ args h => sEnd (
uncons args fun x0_1 vs_2 =>
uncons vs_2 fun x1_3 vs_4 =>
unnil vs_4 (T35c3 h x0_1 x1_3 call))
theorem r35 : sRun s35 = T35 := by kernel_rfl
theorem e35 (u : Nat → Value → Prop) : TOK Go.Proofs.Tryz.prog (cfg u [] []) 35 T35 := .inr ⟨s35, _, _, _, r35.symm, Go.Proofs.Tryz.func35, k35 u, n35⟩
noncomputable def T36c1 (x0_1 : GVal) (x13_13 : GVal) (h_12 : GHeap) (x1_3 : GVal) : SRes :=
bnd (ixSF 1 x0_1 x13_13) fun t18_18 =>
bnd (loadF h_12 1 false t18_18) fun t19_19 =>
bnd (ixSF 1 x1_3 x13_13) fun t22_20 =>
bnd (loadF h_12 1 false t22_20) fun t23_21 =>
bnd (neqF t19_19 t23_21) fun t24_22 =>
sIf t24_22 (
some (SOut.ret (.bool false) h_12)) (
some (SOut.normal [] h_12))
noncomputable def T36c2 (t12_8 : GVal) (x0_1 : GVal) (x1_3 : GVal) (n : Nat) (h : GHeap) : SRes :=
sLoop (fun vs_11 h_12 =>
uncons vs_11 fun x13_13 vs_14 =>
unnil vs_14 (bnd (lssF x13_13 t12_8) fun t14_15 =>
sIf t14_15 (
sBlk 1 (T36c1 x0_1 x13_13 h_12 x1_3) fun vs_16 h_17 =>
unnil vs_16 (bnd (catF x13_13 (.int .i64 (.ofNat 1))) fun t25_23 =>
some (SOut.normal [t25_23] h_17))) (
some (SOut.exit 0 [] h_12)))) n [(.int .i64 (.ofNat 0))] h
noncomputable def T36c3 (x0_1 : GVal) (x1_3 : GVal) (h : GHeap) (n : Nat) : SRes :=
bnd (lenF false x0_1) fun t7_5 =>
bnd (lenF false x1_3) fun t9_6 =>
bnd (neqF t7_5 t9_6) fun t10_7 =>
sIf t10_7 (
some (SOut.ret (.bool false) h)) (
bnd (lenF false x0_1) fun t12_8 =>
sBlk 0 (T36c2 t12_8 x0_1 x1_3 n h) fun vs_9 h_10 =>
unnil vs_9 (some (SOut.ret (.bool true) h_10)))
/-- slices.Equal   string string  -/
noncomputable def T36 : TFun := fun _ _ n args h => sEnd (
uncons args fun x0_1 vs_2 =>
uncons vs_2 fun x1_3 vs_4 =>
unnil vs_4 (T36c3 x0_1 x1_3 h n))
theorem r36 : sRun s36 = T36 := by kernel_rfl
theorem e36 (u : Nat → Value → Prop) : TOK Go.Proofs.Tryz.prog (cfg u [] []) 36 T36 := .inr ⟨s36, _, _, _, r36.symm, Go.Proofs.Tryz.func36, k36 u, n36⟩
noncomputable def T37c1 (h_29 : GHeap) (t9_28 : GVal) (t25_27 : GVal) (t8_22 : GVal) (call : CallF) (x2_5 : GVal) : SRes :=
bnd2 (storeF h_29 7 t9_28 t25_27) fun _ h_31 =>
bnd (loadF h_31 7 true t8_22) fun t27_32 =>
bnd (loadF h_31 7 true t9_28) fun t28_33 =>
bnd2 (callV call x2_5 [t27_32, t28_33] h_31) fun t29_34 h_35 =>
bnd (unF .not t29_34) fun t30_36 =>
sIf t30_36 (
some (SOut.ret (.bool false) h_35)) (
some (SOut.normal [] h_35))
noncomputable def T37c2 (x0_1 : GVal) (x17_15 : GVal) (h_14 : GHeap) (x1_3 : GVal) (call : CallF) (x2_5 : GVal) : SRes :=
bnd (ixSF 7 x0_1 x17_15) fun t20_20 =>
bnd (loadF h_14 7 true t20_20) fun t21_21 =>
bnd2 (allocV [(.str []), .nils, (.int .i64 (.ofNat 0)), (.int .i64 (.ofNat 0)), (.str []), (.int .i64 (.ofNat 0)), .nils] h_14) fun t8_22 h_23 =>
bnd2 (storeF h_23 7 t8_22 t21_21) fun _ h_25 =>
bnd (ixSF 7 x1_3 x17_15) fun t24_26 =>
bnd (loadF h_25 7 true t24_26) fun t25_27 =>
bnd2 (allocV [(.str []), .nils, (.int .i64 (.ofNat 0)), (.int .i64 (.ofNat 0)), (.str []), (.int .i64 (.ofNat 0)), .nils] h_25) fun t9_28 h_29 =>
T37c1 h_29 t9_28 t25_27 t8_22 call x2_5
noncomputable def T37c3 (t16_10 : GVal) (x0_1 : GVal) (x1_3 : GVal) (call : CallF) (x2_5 : GVal) (n : Nat) (h : GHeap) : SRes :=
sLoop (fun vs_13 h_14 =>
uncons vs_13 fun x17_15 vs_16 =>
unnil vs_16 (bnd (lssF x17_15 t16_10) fun t18_17 =>
sIf t18_17 (
sBlk 1 (T37c2 x0_1 x17_15 h_14 x1_3 call x2_5) fun vs_18 h_19 =>
unnil vs_18 (bnd (catF x17_15 (.int .i64 (.ofNat 1))) fun t31_37 =>
some (SOut.normal [t31_37] h_19))) (
some (SOut.exit 0 [] h_14)))) n [(.int .i64 (.ofNat 0))] h
noncomputable def T37c4 (x0_1 : GVal) (x1_3 : GVal) (h : GHeap) (call : CallF) (x2_5 : GVal) (n : Nat) : SRes :=
bnd (lenF false x0_1) fun t11_7 =>
bnd (lenF false x1_3) fun t13_8 =>
bnd (neqF t11_7 t13_8) fun t14_9 =>
sIf t14_9 (
some (SOut.ret (.bool false) h)) (
bnd (lenF false x0_1) fun t16_10 =>
sBlk 0 (T37c3 t16_10 x0_1 x1_3 call x2_5 n h) fun vs_11 h_12 =>
unnil vs_11 (some (SOut.ret (.bool true) h_12)))
/-- slices.EqualFunc   ratline api.Fun   ratline api.Fun ratline api.Fun ratline api.Fun  -/
noncomputable def T37 : TFun := fun _ call n args h => sEnd (
uncons args fun x0_1 vs_2 =>
uncons vs_2 fun x1_3 vs_4 =>
uncons vs_4 fun x2_5 vs_6 =>
unnil vs_6 (T37c4 x0_1 x1_3 h call x2_5 n))
theorem r37 : sRun s37 = T37 := by kernel_rfl
theorem e37 (u : Nat → Value → Prop) : TOK Go.Proofs.Tryz.prog (cfg u [] []) 37 T37 := .inr ⟨s37, _, _, _, r37.symm, Go.Proofs.Tryz.func37, k37 u, n37⟩
noncomputable def T39c1 (t1_3 : GVal) (h_16 : GHeap) (call : CallF) (x3_17 : GVal) : SRes :=
sBlk 2 (bnd (fieldAF 1 t1_3) fun t19_22 =>
bnd (loadF h_16 1 false t19_22) fun t20_23 =>
bnd2 (call 75 [x3_17, t20_23] h_16) fun t21_24 h_25 =>
bnd (neqF t21_24 (.str [])) fun t22_26 =>
sIf t22_26 (
some (SOut.ret x3_17 h_25)) (
some (SOut.normal [] h_25))) fun vs_20 h_21 =>
unnil vs_20 (bnd (catF x3_17 (.int .i64 (.ofNat 1))) fun t17_27 =>
some (SOut.normal [t17_27] h_21))
noncomputable def T39c2 (t13_12 : GVal) (t1_3 : GVal) (call : CallF) (n : Nat) (h_4 : GHeap) : SRes :=
sIf t13_12 (
sBlk 1 (sLoop (fun vs_15 h_16 =>
uncons vs_15 fun x3_17 vs_18 =>
unnil vs_18 (bnd (leqF x3_17 (.int .i64 (.ofNat 5))) fun t15_19 =>
sIf t15_19 (
T39c1 t1_3 h_16 call x3_17) (
some (SOut.exit 1 [] h_16)))) n [(.int .i64 (.ofNat 3))] h_4) fun vs_13 h_14 =>
unnil vs_13 (some (SOut.ret (.int .i64 (.ofNat 7)) h_14))) (
some (SOut.normal [] h_4))
noncomputable def T39c3 (t5_6 : GVal) (h_4 : GHeap) (t1_3 : GVal) (call : CallF) (n : Nat) : SRes :=
bnd (eqlF t5_6 (.int .i64 (.ofNat 12))) fun t9_10 =>
sIf t9_10 (
some (SOut.ret (.int .i64 (.ofNat 2)) h_4)) (
bnd (eqlF t5_6 (.int .i64 (.ofNat 14))) fun t11_11 =>
sIf t11_11 (
some (SOut.ret (.int .i64 (.ofNat 6)) h_4)) (
bnd (eqlF t5_6 (.int .i64 (.ofNat 11))) fun t13_12 =>
T39c2 t13_12 t1_3 call n h_4))
noncomputable def T39c4 (h : GHeap) (x0_1 : GVal) (call : CallF) (n : Nat) : SRes :=
bnd2 (boxF h 5 x0_1) fun t1_3 h_4 =>
bnd (fieldAF 0 t1_3) fun t4_5 =>
bnd (loadF h_4 1 false t4_5) fun t5_6 =>
sBlk 0 (bnd (eqlF t5_6 (.int .i64 (.ofNat 13))) fun t7_9 =>
sIf t7_9 (
some (SOut.ret (.int .i64 (.ofNat 1)) h_4)) (
T39c3 t5_6 h_4 t1_3 call n)) fun vs_7 h_8 =>
unnil vs_7 (some (SOut.ret (.int .i64 (.ofNat 8)) h_8))
/-- ratline parse.strength -/
noncomputable def T39 : TFun := fun _ call n args h => sEnd (
uncons args fun x0_1 vs_2 =>
unnil vs_2 (T39c4 h x0_1 call n))
theorem r39 : sRun s39 = T39 := by kernel_rfl
theorem e39 (u : Nat → Value → Prop) : TOK Go.Proofs.Tryz.prog (cfg u [] []) 39 T39 := .inr ⟨s39, _, _, _, r39.symm, Go.Proofs.Tryz.func39, k39 u, n39⟩
noncomputable def T40c1 (t3_5 : GVal) (h_6 : GHeap) (call : CallF) (x0_1 : GVal) : SRes :=
sJoin (bnd (fieldAF 1 t3_5) fun t27_26 =>
bnd (loadF h_6 1 false t27_26) fun t28_27 =>
bnd (eqlF t28_27 (.int .i64 (.ofNat 16))) fun t29_28 =>
sIf t29_28 (
some (SOut.normal [(.str [33])] h_6)) (
some (SOut.normal [(.str [45])] h_6))) fun vs_24 h_25 =>
uncons vs_24 fun x4_29 vs_30 =>
unnil vs_30 (bnd (buildSlF (.str []) 1 1 [(0, x4_29)]) fun t32_31 =>
bnd2 (call 33 [x0_1, t32_31] h_25) fun _ h_33 =>
bnd (loadF h_33 5 true t3_5) fun t35_34 =>
bnd2 (call 78 [t35_34, (.int .i64 (.ofNat 0))] h_33) fun t36_35 h_36 =>
bnd2 (call 21 [x0_1, t36_35, (.int .i64 (.ofNat 6))] h_36) fun _ h_38 =>
some (SOut.normal [] h_38))
noncomputable def T40c2 (t74_72 : GVal) (call : CallF) (x0_1 : GVal) (h_6 : GHeap) (t3_5 : GVal) : SRes :=
bnd (buildSlF (.str []) 1 2 [(0, t74_72), (1, (.str [40]))]) fun t75_73 =>
bnd2 (call 33 [x0_1, t75_73] h_6) fun _ h_75 =>
bnd (fieldAF 4 t3_5) fun t78_76 =>
bnd (loadF h_75 1 false t78_76) fun t79_77 =>
bnd2 (call 81 [x0_1, t79_77] h_75) fun _ h_79 =>
bnd (buildSlF (.str []) 1 1 [(0, (.str [41]))]) fun t82_80 =>
bnd2 (call 33 [x0_1, t82_80] h_79) fun _ h_82 =>
some (SOut.normal [] h_82)
noncomputable def T40c3 (call : CallF) (x0_1 : GVal) (h_6 : GHeap) (t3_5 : GVal) : SRes :=
bnd (buildSlF (.str []) 1 1 [(0, (.str [91]))]) fun t87_84 =>
bnd2 (call 33 [x0_1, t87_84] h_6) fun _ h_86 =>
bnd (fieldAF 4 t3_5) fun t90_87 =>
bnd (loadF h_86 1 false t90_87) fun t91_88 =>
bnd2 (call 81 [x0_1, t91_88] h_86) fun _ h_90 =>
bnd (buildSlF (.str []) 1 1 [(0, (.str [93]))]) fun t94_91 =>
bnd2 (call 33 [x0_1, t94_91] h_90) fun _ h_93 =>
some (SOut.normal [] h_93)
noncomputable def T40c4 (t71_70 : GVal) (t3_5 : GVal) (h_6 : GHeap) (call : CallF) (x0_1 : GVal) (t6_8 : GVal) : SRes :=
sIf t71_70 (
bnd (fieldAF 2 t3_5) fun t73_71 =>
bnd (loadF h_6 1 false t73_71) fun t74_72 =>
T40c2 t74_72 call x0_1 h_6 t3_5) (
bnd (eqlF t6_8 (.int .i64 (.ofNat 21))) fun t85_83 =>
sIf t85_83 (
T40c3 call x0_1 h_6 t3_5) (
bnd (buildSlF (.str []) 1 1 [(0, (.str [110, 105, 108]))]) fun t8_94 =>
bnd2 (call 33 [x0_1, t8_94] h_6) fun _ h_96 =>
some (SOut.normal [] h_96)))
noncomputable def T40c5 (t64_64 : GVal) (t3_5 : GVal) (h_6 : GHeap) (call : CallF) (x0_1 : GVal) (t6_8 : GVal) : SRes :=
sIf t64_64 (
bnd (fieldAF 2 t3_5) fun t66_65 =>
bnd (loadF h_6 1 false t66_65) fun t67_66 =>
bnd (buildSlF (.str []) 1 1 [(0, t67_66)]) fun t68_67 =>
bnd2 (call 33 [x0_1, t68_67] h_6) fun _ h_69 =>
some (SOut.normal [] h_69)) (
bnd (eqlF t6_8 (.int .i64 (.ofNat 20))) fun t71_70 =>
T40c4 t71_70 t3_5 h_6 call x0_1 t6_8)
noncomputable def T40c6 (t56_56 : GVal) (t3_5 : GVal) (h_6 : GHeap) (call : CallF) (x0_1 : GVal) (t6_8 : GVal) : SRes :=
sIf t56_56 (
bnd (fieldAF 2 t3_5) fun t58_57 =>
bnd (loadF h_6 1 false t58_57) fun t59_58 =>
bnd2 (call 80 [t59_58] h_6) fun t60_59 h_60 =>
bnd (buildSlF (.str []) 1 1 [(0, t60_59)]) fun t61_61 =>
bnd2 (call 33 [x0_1, t61_61] h_60) fun _ h_63 =>
some (SOut.normal [] h_63)) (
bnd (eqlF t6_8 (.int .i64 (.ofNat 19))) fun t64_64 =>
T40c5 t64_64 t3_5 h_6 call x0_1 t6_8)
noncomputable def T40c7 (t47_47 : GVal) (t3_5 : GVal) (h_6 : GHeap) (call : CallF) (x0_1 : GVal) (t6_8 : GVal) : SRes :=
sIf t47_47 (
bnd (fieldAF 3 t3_5) fun t49_48 =>
bnd (loadF h_6 1 false t49_48) fun t50_49 =>
bnd2 (call 79 [t50_49, (.int .i64 (.ofNat 10))] h_6) fun t51_50 h_51 =>
bnd (catF t51_50 (.str [105])) fun t52_52 =>
bnd (buildSlF (.str []) 1 1 [(0, t52_52)]) fun t53_53 =>
bnd2 (call 33 [x0_1, t53_53] h_51) fun _ h_55 =>
some (SOut.normal [] h_55)) (
bnd (eqlF t6_8 (.int .i64 (.ofNat 17))) fun t56_56 =>
T40c6 t56_56 t3_5 h_6 call x0_1 t6_8)
noncomputable def T40c8 (t39_39 : GVal) (t3_5 : GVal) (h_6 : GHeap) (call : CallF) (x0_1 : GVal) (t6_8 : GVal) : SRes :=
sIf t39_39 (
bnd (fieldAF 3 t3_5) fun t41_40 =>
bnd (loadF h_6 1 false t41_40) fun t42_41 =>
bnd2 (call 79 [t42_41, (.int .i64 (.ofNat 10))] h_6) fun t43_42 h_43 =>
bnd (buildSlF (.str []) 1 1 [(0, t43_42)]) fun t44_44 =>
bnd2 (call 33 [x0_1, t44_44] h_43) fun _ h_46 =>
some (SOut.normal [] h_46)) (
bnd (eqlF t6_8 (.int .i64 (.ofNat 16))) fun t47_47 =>
T40c7 t47_47 t3_5 h_6 call x0_1 t6_8)
noncomputable def T40c9 (t21_19 : GVal) (h_6 : GHeap) (t3_5 : GVal) (call : CallF) (x0_1 : GVal) (t6_8 : GVal) : SRes :=
sIf t21_19 (
bnd (loadF h_6 5 true t3_5) fun t23_20 =>
bnd2 (call 77 [x0_1, t23_20] h_6) fun _ h_22 =>
some (SOut.normal [] h_22)) (
bnd (eqlF t6_8 (.int .i64 (.ofNat 14))) fun t26_23 =>
sIf t26_23 (
T40c1 t3_5 h_6 call x0_1) (
bnd (eqlF t6_8 (.int .i64 (.ofNat 15))) fun t39_39 =>
T40c8 t39_39 t3_5 h_6 call x0_1 t6_8))
noncomputable def T40c10 (t11_11 : GVal) (h_6 : GHeap) (t3_5 : GVal) (call : CallF) (x0_1 : GVal) (t6_8 : GVal) : SRes :=
sIf t11_11 (
bnd (loadF h_6 5 true t3_5) fun t13_12 =>
bnd2 (call 76 [x0_1, t13_12, (.str [124, 124])] h_6) fun _ h_14 =>
some (SOut.normal [] h_14)) (
bnd (eqlF t6_8 (.int .i64 (.ofNat 12))) fun t16_15 =>
sIf t16_15 (
bnd (loadF h_6 5 true t3_5) fun t18_16 =>
bnd2 (call 76 [x0_1, t18_16, (.str [38, 38])] h_6) fun _ h_18 =>
some (SOut.normal [] h_18)) (
bnd (eqlF t6_8 (.int .i64 (.ofNat 11))) fun t21_19 =>
T40c9 t21_19 h_6 t3_5 call x0_1 t6_8))
/--   ratline parse.printer .bare -/
noncomputable def T40 : TFun := fun _ call _ args h => sEnd (
uncons args fun x0_1 vs_2 =>
uncons vs_2 fun x1_3 vs_4 =>
unnil vs_4 (bnd2 (boxF h 5 x1_3) fun t3_5 h_6 =>
bnd (fieldAF 0 t3_5) fun t5_7 =>
bnd (loadF h_6 1 false t5_7) fun t6_8 =>
sBlk 0 (bnd (eqlF t6_8 (.int .i64 (.ofNat 13))) fun t11_11 =>
T40c10 t11_11 h_6 t3_5 call x0_1 t6_8) fun vs_9 h_10 =>
unnil vs_9 (some (SOut.ret (.tuple []) h_10))))
theorem r40 : sRun s40 = T40 := by kernel_rfl
theorem e40 (u : Nat → Value → Prop) : TOK Go.Proofs.Tryz.prog (cfg u [] []) 40 T40 := .inr ⟨s40, _, _, _, r40.symm, Go.Proofs.Tryz.func40, k40 u, n40⟩
noncomputable def T44c1 (h_29 : GHeap) (t9_28 : GVal) (t25_27 : GVal) (t8_22 : GVal) (call : CallF) (x2_5 : GVal) : SRes :=
bnd2 (storeF h_29 5 t9_28 t25_27) fun _ h_31 =>
bnd (loadF h_31 5 true t8_22) fun t27_32 =>
bnd (loadF h_31 5 true t9_28) fun t28_33 =>
bnd2 (callV call x2_5 [t27_32, t28_33] h_31) fun t29_34 h_35 =>
bnd (unF .not t29_34) fun t30_36 =>
sIf t30_36 (
some (SOut.ret (.bool false) h_35)) (
some (SOut.normal [] h_35))
noncomputable def T44c2 (x0_1 : GVal) (x17_15 : GVal) (h_14 : GHeap) (x1_3 : GVal) (call : CallF) (x2_5 : GVal) : SRes :=
bnd (ixSF 5 x0_1 x17_15) fun t20_20 =>
bnd (loadF h_14 5 true t20_20) fun t21_21 =>
bnd2 (allocV [(.int .i64 (.ofNat 0)), (.int .i64 (.ofNat 0)), (.str []), (.int .i64 (.ofNat 0)), .nils] h_14) fun t8_22 h_23 =>
bnd2 (storeF h_23 5 t8_22 t21_21) fun _ h_25 =>
bnd (ixSF 5 x1_3 x17_15) fun t24_26 =>
bnd (loadF h_25 5 true t24_26) fun t25_27 =>
bnd2 (allocV [(.int .i64 (.ofNat 0)), (.int .i64 (.ofNat 0)), (.str []), (.int .i64 (.ofNat 0)), .nils] h_25) fun t9_28 h_29 =>
T44c1 h_29 t9_28 t25_27 t8_22 call x2_5
noncomputable def T44c3 (t16_10 : GVal) (x0_1 : GVal) (x1_3 : GVal) (call : CallF) (x2_5 : GVal) (n : Nat) (h : GHeap) : SRes :=
sLoop (fun vs_13 h_14 =>
uncons vs_13 fun x17_15 vs_16 =>
unnil vs_16 (bnd (lssF x17_15 t16_10) fun t18_17 =>
sIf t18_17 (
sBlk 1 (T44c2 x0_1 x17_15 h_14 x1_3 call x2_5) fun vs_18 h_19 =>
unnil vs_18 (bnd (catF x17_15 (.int .i64 (.ofNat 1))) fun t31_37 =>
some (SOut.normal [t31_37] h_19))) (
some (SOut.exit 0 [] h_14)))) n [(.int .i64 (.ofNat 0))] h
noncomputable def T44c4 (x0_1 : GVal) (x1_3 : GVal) (h : GHeap) (call : CallF) (x2_5 : GVal) (n : Nat) : SRes :=
bnd (lenF false x0_1) fun t11_7 =>
bnd (lenF false x1_3) fun t13_8 =>
bnd (neqF t11_7 t13_8) fun t14_9 =>
sIf t14_9 (
some (SOut.ret (.bool false) h)) (
bnd (lenF false x0_1) fun t16_10 =>
sBlk 0 (T44c3 t16_10 x0_1 x1_3 call x2_5 n h) fun vs_11 h_12 =>
unnil vs_11 (some (SOut.ret (.bool true) h_12)))
/-- slices.EqualFunc   ratline api.Node   ratline api.Node ratline api.Node ratline api.Node  -/
noncomputable def T44 : TFun := fun _ call n args h => sEnd (
uncons args fun x0_1 vs_2 =>
uncons vs_2 fun x1_3 vs_4 =>
uncons vs_4 fun x2_5 vs_6 =>
unnil vs_6 (T44c4 x0_1 x1_3 h call x2_5 n))
theorem r44 : sRun s44 = T44 := by kernel_rfl
theorem e44 (u : Nat → Value → Prop) : TOK Go.Proofs.Tryz.prog (cfg u [] []) 44 T44 := .inr ⟨s44, _, _, _, r44.symm, Go.Proofs.Tryz.func44, k44 u, n44⟩
noncomputable def T53c1 (t30_28 : GVal) (x3_13 : GVal) (h_27 : GHeap) (t5_24 : GVal) (x2_11 : GVal) (t28_23 : GVal) : SRes :=
sIf t30_28 (
some (SOut.ret (.tuple [.nils, x3_13, (.int .i64 (.ofNat 10))]) h_27)) (
bnd (fieldAF 3 t5_24) fun t33_29 =>
bnd2 (storeF h_27 1 t33_29 x3_13) fun _ h_31 =>
bnd (loadF h_31 4 true t5_24) fun t35_32 =>
bnd (buildSlF (.agg [(.int .i64 (.ofNat 0)), (.str []), (.int .i64 (.ofNat 0)), (.int .i64 (.ofNat 0))]) 4 1 [(0, t35_32)]) fun t36_33 =>
bnd2 (appendF h_31 4 40 true false x2_11 t36_33) fun t37_34 h_35 =>
bnd (catF x3_13 t28_23) fun t40_36 =>
some (SOut.normal [t37_34, t40_36] h_35))
noncomputable def T53c2 (x0_1 : GVal) (x3_13 : GVal) (call : CallF) (h_10 : GHeap) (x2_11 : GVal) : SRes :=
bnd (sliceStrF x0_1 (some x3_13) none) fun t25_19 =>
bnd2 (call 91 [t25_19] h_10) fun t26_20 h_21 =>
bnd (extrF 0 t26_20) fun t27_22 =>
bnd (extrF 1 t26_20) fun t28_23 =>
bnd2 (allocV [(.int .i64 (.ofNat 0)), (.str []), (.int .i64 (.ofNat 0)), (.int .i64 (.ofNat 0))] h_21) fun t5_24 h_25 =>
bnd2 (storeF h_25 4 t5_24 t27_22) fun _ h_27 =>
bnd (eqlF t28_23 (.int .i64 (.ofNat 0))) fun t30_28 =>
T53c1 t30_28 x3_13 h_27 t5_24 x2_11 t28_23
noncomputable def T53c3 (t15_16 : GVal) (x0_1 : GVal) (x3_13 : GVal) (call : CallF) (h_10 : GHeap) (x2_11 : GVal) : SRes :=
sIf t15_16 (
sBlk 1 (T53c2 x0_1 x3_13 call h_10 x2_11) fun vs_17 h_18 =>
uncons vs_17 fun x2_37 vs_38 =>
uncons vs_38 fun x3_39 vs_40 =>
unnil vs_40 (bnd (sliceStrF x0_1 (some x3_39) none) fun t19_41 =>
bnd2 (call 90 [t19_41] h_18) fun t20_42 h_43 =>
bnd (catF x3_39 t20_42) fun t21_44 =>
some (SOut.normal [x2_37, t21_44] h_43))) (
some (SOut.exit 0 [x2_11] h_10))
noncomputable def T53c4 (x0_1 : GVal) (call : CallF) (n : Nat) (t11_5 : GVal) (h_6 : GHeap) : SRes :=
sBlk 0 (sLoop (fun vs_9 h_10 =>
uncons vs_9 fun x2_11 vs_12 =>
uncons vs_12 fun x3_13 vs_14 =>
unnil vs_14 (bnd (lenF true x0_1) fun t14_15 =>
bnd (lssF x3_13 t14_15) fun t15_16 =>
T53c3 t15_16 x0_1 x3_13 call h_10 x2_11)) n [.nils, t11_5] h_6) fun vs_7 h_8 =>
uncons vs_7 fun x2_45 vs_46 =>
unnil vs_46 (some (SOut.ret (.tuple [x2_45, (.int .i64 (.ofNat 0)), (.int .i64 (.ofNat 0))]) h_8))
/-- ratline lex.Tokens -/
noncomputable def T53 : TFun := fun _ call n args h => sEnd (
uncons args fun x0_1 vs_2 =>
unnil vs_2 (bnd (lenF true x0_1) fun t8_3 =>
bnd (gtrF t8_3 (.int .i64 (.ofNat 4000))) fun t9_4 =>
sIf t9_4 (
some (SOut.ret (.tuple [.nils, (.int .i64 (.ofNat 0)), (.int .i64 (.ofNat 2))]) h)) (
bnd2 (call 90 [x0_1] h) fun t11_5 h_6 =>
T53c4 x0_1 call n t11_5 h_6)))
theorem r53 : sRun s53 = T53 := by kernel_rfl
theorem e53 (u : Nat → Value → Prop) : TOK Go.Proofs.Tryz.prog (cfg u [] []) 53 T53 := .inr ⟨s53, _, _, _, r53.symm, Go.Proofs.Tryz.func53, k53 u, n53⟩
noncomputable def T54c1 (h_26 : GHeap) (t7_17 : GVal) (x1_3 : GVal) (call : CallF) (x0_1 : GVal) (x6_12 : GVal) : SRes :=
bnd (loadF h_26 5 true t7_17) fun t18_29 =>
bnd (catF x1_3 (.int .i64 (.ofNat 1))) fun t21_30 =>
bnd2 (call 27 [x0_1, t21_30] h_26) fun t22_31 h_32 =>
bnd (buildSlF (.agg [(.int .i64 (.ofNat 0)), (.int .i64 (.ofNat 0)), (.str []), (.int .i64 (.ofNat 0)), .nils]) 5 2 [(0, t18_29), (1, t22_31)]) fun t23_33 =>
bnd (buildF [(.int .i64 (.ofNat 0)), (.int .i64 (.ofNat 0)), (.str []), (.int .i64 (.ofNat 0)), .nils] [(0, 1, x6_12), (4, 1, t23_33)]) fun t24_34 =>
bnd2 (storeF h_32 5 t7_17 t24_34) fun _ h_36 =>
guardS (((chkV (loadV h_32 5 true t7_17) t18_29) && true) && true) (
some (SOut.normal [] h_36))
noncomputable def T54c2 (call : CallF) (x0_1 : GVal) (x5_10 : GVal) (t7_17 : GVal) (x1_3 : GVal) (x6_12 : GVal) (n : Nat) (h_20 : GHeap) (t4_5 : GVal) : SRes :=
sBlk 0 (sLoop (fun vs_23 h_24 =>
unnil vs_23 (bnd2 (call 71 [x0_1, x5_10] h_24) fun t16_25 h_26 =>
sIf t16_25 (
sBlk 1 (T54c1 h_26 t7_17 x1_3 call x0_1 x6_12) fun vs_27 h_28 =>
unnil vs_27 (some (SOut.normal [] h_28))) (
some (SOut.exit 0 [] h_26)))) n [] h_20) fun vs_21 h_22 =>
unnil vs_21 (bnd (loadF h_22 5 true t7_17) fun t25_37 =>
bnd2 (storeF h_22 5 t4_5 t25_37) fun _ h_39 =>
bnd (loadF h_39 5 true t4_5) fun r_40 =>
some (SOut.ret r_40 h_39))
noncomputable def T54c3 (x1_3 : GVal) (h_6 : GHeap) (call : CallF) (x0_1 : GVal) (n : Nat) (t4_5 : GVal) : SRes :=
sJoin (bnd (eqlF x1_3 (.int .i64 (.ofNat 2))) fun t9_9 =>
sIf t9_9 (
some (SOut.normal [(.str [38, 38]), (.int .i64 (.ofNat 12))] h_6)) (
some (SOut.normal [(.str [124, 124]), (.int .i64 (.ofNat 13))] h_6))) fun vs_7 h_8 =>
uncons vs_7 fun x5_10 vs_11 =>
uncons vs_11 fun x6_12 vs_13 =>
unnil vs_13 (bnd (catF x1_3 (.int .i64 (.ofNat 1))) fun t12_14 =>
bnd2 (call 27 [x0_1, t12_14] h_8) fun t13_15 h_16 =>
bnd2 (allocV [(.int .i64 (.ofNat 0)), (.int .i64 (.ofNat 0)), (.str []), (.int .i64 (.ofNat 0)), .nils] h_16) fun t7_17 h_18 =>
bnd2 (storeF h_18 5 t7_17 t13_15) fun _ h_20 =>
T54c2 call x0_1 x5_10 t7_17 x1_3 x6_12 n h_20 t4_5)
/--   ratline parse.parser .logic -/
noncomputable def T54 : TFun := fun _ call n args h => sEnd (
uncons args fun x0_1 vs_2 =>
uncons vs_2 fun x1_3 vs_4 =>
unnil vs_4 (bnd2 (allocV [(.int .i64 (.ofNat 0)), (.int .i64 (.ofNat 0)), (.str []), (.int .i64 (.ofNat 0)), .nils] h) fun t4_5 h_6 =>
T54c3 x1_3 h_6 call x0_1 n t4_5))
theorem r54 : sRun s54 = T54 := by kernel_rfl
theorem e54 (u : Nat → Value → Prop) : TOK Go.Proofs.Tryz.prog (cfg u [] []) 54 T54 := .inr ⟨s54, _, _, _, r54.symm, Go.Proofs.Tryz.func54, k54 u, n54⟩
noncomputable def T55c1 (t20_25 : GVal) (t24_27 : GVal) (x6_20 : GVal) (h_28 : GHeap) (t5_10 : GVal) (x1_3 : GVal) : SRes :=
bnd (buildSlF (.agg [(.int .i64 (.ofNat 0)), (.int .i64 (.ofNat 0)), (.str []), (.int .i64 (.ofNat 0)), .nils]) 5 2 [(0, t20_25), (1, t24_27)]) fun t25_29 =>
bnd (buildF [(.int .i64 (.ofNat 0)), (.int .i64 (.ofNat 0)), (.str []), (.int .i64 (.ofNat 0)), .nils] [(0, 1, (.int .i64 (.ofNat 11))), (1, 1, x6_20), (4, 1, t25_29)]) fun t26_30 =>
bnd2 (storeF h_28 5 t5_10 t26_30) fun _ h_32 =>
guardS (((chkV (loadV h_28 5 true t5_10) t20_25) && true) && true) (
bnd (eqlF x1_3 (.int .i64 (.ofNat 3))) fun t28_33 =>
sIf t28_33 (
some (SOut.exit 0 [] h_32)) (
some (SOut.normal [] h_32)))
noncomputable def T55c2 (t15_22 : GVal) (h_19 : GHeap) (t5_10 : GVal) (x1_3 : GVal) (call : CallF) (x0_1 : GVal) (x6_20 : GVal) : SRes :=
sIf t15_22 (
sBlk 1 (bnd (loadF h_19 5 true t5_10) fun t20_25 =>
bnd (catF x1_3 (.int .i64 (.ofNat 1))) fun t23_26 =>
bnd2 (call 27 [x0_1, t23_26] h_19) fun t24_27 h_28 =>
T55c1 t20_25 t24_27 x6_20 h_28 t5_10 x1_3) fun vs_23 h_24 =>
unnil vs_23 (bnd2 (call 92 [x0_1, x1_3] h_24) fun t18_34 h_35 =>
some (SOut.normal [t18_34] h_35))) (
some (SOut.exit 0 [] h_19))
noncomputable def T55c3 (t5_10 : GVal) (x1_3 : GVal) (call : CallF) (x0_1 : GVal) (n : Nat) (t13_14 : GVal) (h_15 : GHeap) (t4_5 : GVal) : SRes :=
sBlk 0 (sLoop (fun vs_18 h_19 =>
uncons vs_18 fun x6_20 vs_21 =>
unnil vs_21 (bnd (neqF x6_20 (.int .i64 (.ofNat 0))) fun t15_22 =>
T55c2 t15_22 h_19 t5_10 x1_3 call x0_1 x6_20)) n [t13_14] h_15) fun vs_16 h_17 =>
unnil vs_16 (bnd (loadF h_17 5 true t5_10) fun t29_36 =>
bnd2 (storeF h_17 5 t4_5 t29_36) fun _ h_38 =>
bnd (loadF h_38 5 true t4_5) fun r_39 =>
some (SOut.ret r_39 h_38))
/--   ratline parse.parser .row -/
noncomputable def T55 : TFun := fun _ call n args h => sEnd (
uncons args fun x0_1 vs_2 =>
uncons vs_2 fun x1_3 vs_4 =>
unnil vs_4 (bnd2 (allocV [(.int .i64 (.ofNat 0)), (.int .i64 (.ofNat 0)), (.str []), (.int .i64 (.ofNat 0)), .nils] h) fun t4_5 h_6 =>
bnd (catF x1_3 (.int .i64 (.ofNat 1))) fun t9_7 =>
bnd2 (call 27 [x0_1, t9_7] h_6) fun t10_8 h_9 =>
bnd2 (allocV [(.int .i64 (.ofNat 0)), (.int .i64 (.ofNat 0)), (.str []), (.int .i64 (.ofNat 0)), .nils] h_9) fun t5_10 h_11 =>
bnd2 (storeF h_11 5 t5_10 t10_8) fun _ h_13 =>
bnd2 (call 92 [x0_1, x1_3] h_13) fun t13_14 h_15 =>
T55c3 t5_10 x1_3 call x0_1 n t13_14 h_15 t4_5))
theorem r55 : sRun s55 = T55 := by kernel_rfl
theorem e55 (u : Nat → Value → Prop) : TOK Go.Proofs.Tryz.prog (cfg u [] []) 55 T55 := .inr ⟨s55, _, _, _, r55.symm, Go.Proofs.Tryz.func55, k55 u, n55⟩
noncomputable def T56c1 (call : CallF) (t11_12 : GVal) (h_11 : GHeap) (t1_3 : GVal) (t2_5 : GVal) : SRes :=
bnd2 (call 93 [t11_12, (.int .i64 (.ofNat 6)), (.str [33])] h_11) fun t12_13 h_14 =>
sIf t12_13 (
some (SOut.normal [(.int .i64 (.ofNat 16))] h_14)) (
bnd (loadF h_14 1 false t1_3) fun t5_15 =>
bnd2 (call 27 [t5_15, (.int .i64 (.ofNat 7))] h_14) fun t6_16 h_17 =>
bnd2 (storeF h_17 5 t2_5 t6_16) fun _ h_19 =>
bnd (loadF h_19 5 true t2_5) fun r_20 =>
some (SOut.ret r_20 h_19))
noncomputable def T56c2 (h_25 : GHeap) (t4_24 : GVal) (t14_23 : GVal) (t1_3 : GVal) (call : CallF) (t2_5 : GVal) : SRes :=
bnd2 (storeF h_25 5 t4_24 t14_23) fun _ h_27 =>
bnd (loadF h_27 1 false t1_3) fun t15_28 =>
bnd (some (GVal.func (.func 95) [] [t1_3, t4_24])) fun t16_29 =>
bnd2 (call 94 [t15_28, t16_29] h_27) fun _ h_31 =>
bnd (loadF h_31 5 true t4_24) fun t18_32 =>
bnd2 (storeF h_31 5 t2_5 t18_32) fun _ h_34 =>
bnd (loadF h_34 5 true t2_5) fun r_35 =>
some (SOut.ret r_35 h_34)
noncomputable def T56c3 (h_6 : GHeap) (t1_3 : GVal) (call : CallF) (t2_5 : GVal) : SRes :=
sBlk 0 (bnd (loadF h_6 1 false t1_3) fun t8_9 =>
bnd2 (call 93 [t8_9, (.int .i64 (.ofNat 6)), (.str [45])] h_6) fun t9_10 h_11 =>
sIf t9_10 (
some (SOut.normal [(.int .i64 (.ofNat 15))] h_11)) (
bnd (loadF h_11 1 false t1_3) fun t11_12 =>
T56c1 call t11_12 h_11 t1_3 t2_5)) fun vs_7 h_8 =>
uncons vs_7 fun x3_21 vs_22 =>
unnil vs_22 (bnd (buildF [(.int .i64 (.ofNat 0)), (.int .i64 (.ofNat 0)), (.str []), (.int .i64 (.ofNat 0)), .nils] [(0, 1, (.int .i64 (.ofNat 14))), (1, 1, x3_21)]) fun t14_23 =>
bnd2 (allocV [(.int .i64 (.ofNat 0)), (.int .i64 (.ofNat 0)), (.str []), (.int .i64 (.ofNat 0)), .nils] h_8) fun t4_24 h_25 =>
T56c2 h_25 t4_24 t14_23 t1_3 call t2_5)
/--   ratline parse.parser .unary -/
noncomputable def T56 : TFun := fun _ call _ args h => sEnd (
uncons args fun x0_1 vs_2 =>
unnil vs_2 (bnd2 (boxF h 1 x0_1) fun t1_3 h_4 =>
bnd2 (allocV [(.int .i64 (.ofNat 0)), (.int .i64 (.ofNat 0)), (.str []), (.int .i64 (.ofNat 0)), .nils] h_4) fun t2_5 h_6 =>
T56c3 h_6 t1_3 call t2_5))
theorem r56 : sRun s56 = T56 := by kernel_rfl
theorem e56 (u : Nat → Value → Prop) : TOK Go.Proofs.Tryz.prog (cfg u [] []) 56 T56 := .inr ⟨s56, _, _, _, r56.symm, Go.Proofs.Tryz.func56, k56 u, n56⟩
noncomputable def T57c1 (call : CallF) (t6_18 : GVal) (h_17 : GHeap) (t1_3 : GVal) (t3_10 : GVal) : SRes :=
bnd2 (call 93 [t6_18, (.int .i64 (.ofNat 6)), (.str [91])] h_17) fun t7_19 h_20 =>
sIf t7_19 (
sBlk 1 (bnd (loadF h_20 1 false t1_3) fun t8_23 =>
bnd (some (GVal.func (.func 97) [] [t1_3, t3_10])) fun t9_24 =>
bnd2 (call 94 [t8_23, t9_24] h_20) fun _ h_26 =>
some (SOut.normal [] h_26)) fun vs_21 h_22 =>
unnil vs_21 (some (SOut.normal [] h_22))) (
some (SOut.exit 0 [] h_20))
noncomputable def T57c2 (h_11 : GHeap) (t3_10 : GVal) (t5_8 : GVal) (t1_3 : GVal) (call : CallF) (n : Nat) (t2_5 : GVal) : SRes :=
bnd2 (storeF h_11 5 t3_10 t5_8) fun _ h_13 =>
sBlk 0 (sLoop (fun vs_16 h_17 =>
unnil vs_16 (bnd (loadF h_17 1 false t1_3) fun t6_18 =>
T57c1 call t6_18 h_17 t1_3 t3_10)) n [] h_13) fun vs_14 h_15 =>
unnil vs_14 (bnd (loadF h_15 5 true t3_10) fun t11_27 =>
bnd2 (storeF h_15 5 t2_5 t11_27) fun _ h_29 =>
bnd (loadF h_29 5 true t2_5) fun r_30 =>
some (SOut.ret r_30 h_29))
/--   ratline parse.parser .index -/
noncomputable def T57 : TFun := fun _ call n args h => sEnd (
uncons args fun x0_1 vs_2 =>
unnil vs_2 (bnd2 (boxF h 1 x0_1) fun t1_3 h_4 =>
bnd2 (allocV [(.int .i64 (.ofNat 0)), (.int .i64 (.ofNat 0)), (.str []), (.int .i64 (.ofNat 0)), .nils] h_4) fun t2_5 h_6 =>
bnd (loadF h_6 1 false t1_3) fun t4_7 =>
bnd2 (call 96 [t4_7] h_6) fun t5_8 h_9 =>
bnd2 (allocV [(.int .i64 (.ofNat 0)), (.int .i64 (.ofNat 0)), (.str []), (.int .i64 (.ofNat 0)), .nils] h_9) fun t3_10 h_11 =>
T57c2 h_11 t3_10 t5_8 t1_3 call n t2_5))
theorem r57 : sRun s57 = T57 := by kernel_rfl
theorem e57 (u : Nat → Value → Prop) : TOK Go.Proofs.Tryz.prog (cfg u [] []) 57 T57 := .inr ⟨s57, _, _, _, r57.symm, Go.Proofs.Tryz.func57, k57 u, n57⟩
noncomputable def T68c1 (x0_1 : GVal) (h_6 : GHeap) : SRes :=
bnd (nilChkF x0_1) fun t10_8 =>
bnd (fieldAF 1 t10_8) fun t11_9 =>
bnd (loadF h_6 1 false t11_9) fun t12_10 =>
bnd (catF t12_10 (.int .i64 (.ofNat 1))) fun t13_11 =>
bnd (nilChkF x0_1) fun t14_12 =>
bnd (fieldAF 1 t14_12) fun t15_13 =>
bnd2 (storeF h_6 1 t15_13 t13_11) fun _ h_15 =>
some (SOut.ret (.bool true) h_15)
/--   ratline parse.parser .word -/
noncomputable def T68 : TFun := fun _ call _ args h => sEnd (
uncons args fun x0_1 vs_2 =>
uncons vs_2 fun x1_3 vs_4 =>
unnil vs_4 (bnd2 (call 93 [x0_1, (.int .i64 (.ofNat 2)), x1_3] h) fun t7_5 h_6 =>
bnd (unF .not t7_5) fun t8_7 =>
sIf t8_7 (
some (SOut.ret (.bool false) h_6)) (
T68c1 x0_1 h_6)))
theorem r68 : sRun s68 = T68 := by kernel_rfl
theorem e68 (u : Nat → Value → Prop) : TOK Go.Proofs.Tryz.prog (cfg u [] []) 68 T68 := .inr ⟨s68, _, _, _, r68.symm, Go.Proofs.Tryz.func68, k68 u, n68⟩
noncomputable def T69c1 (x0_1 : GVal) (h_15 : GHeap) (t18_18 : GVal) : SRes :=
bnd (nilChkF x0_1) fun t20_19 =>
bnd (fieldAF 1 t20_19) fun t21_20 =>
bnd (loadF h_15 1 false t21_20) fun t22_21 =>
bnd (gBin .sub t22_21 (.int .i64 (.ofNat 1))) fun t23_22 =>
bnd (ixSF 4 t18_18 t23_22) fun t24_23 =>
bnd (fieldAF 1 t24_23) fun t25_24 =>
bnd (loadF h_15 1 false t25_24) fun t26_25 =>
some (SOut.ret t26_25 h_15)
noncomputable def T69c2 (t11_10 : GVal) (x0_1 : GVal) (h_4 : GHeap) : SRes :=
bnd (catF t11_10 (.int .i64 (.ofNat 1))) fun t12_11 =>
bnd (nilChkF x0_1) fun t13_12 =>
bnd (fieldAF 1 t13_12) fun t14_13 =>
bnd2 (storeF h_4 1 t14_13 t12_11) fun _ h_15 =>
bnd (nilChkF x0_1) fun t16_16 =>
bnd (fieldAF 0 t16_16) fun t17_17 =>
bnd (loadF h_15 1 false t17_17) fun t18_18 =>
T69c1 x0_1 h_15 t18_18
noncomputable def T69c3 (t4_3 : GVal) (call : CallF) (x0_1 : GVal) (h_4 : GHeap) : SRes :=
bnd (neqF t4_3 (.int .i64 (.ofNat 1))) fun t5_5 =>
sIf t5_5 (
bnd2 (call 28 [x0_1, (.int .i64 (.ofNat 10))] h_4) fun _ h_7 =>
some (SOut.ret (.str []) h_7)) (
bnd (nilChkF x0_1) fun t9_8 =>
bnd (fieldAF 1 t9_8) fun t10_9 =>
bnd (loadF h_4 1 false t10_9) fun t11_10 =>
T69c2 t11_10 x0_1 h_4)
/--   ratline parse.parser .name -/
noncomputable def T69 : TFun := fun _ call _ args h => sEnd (
uncons args fun x0_1 vs_2 =>
unnil vs_2 (bnd2 (call 100 [x0_1] h) fun t4_3 h_4 =>
T69c3 t4_3 call x0_1 h_4))
theorem r69 : sRun s69 = T69 := by kernel_rfl
theorem e69 (u : Nat → Value → Prop) : TOK Go.Proofs.Tryz.prog (cfg u [] []) 69 T69 := .inr ⟨s69, _, _, _, r69.symm, Go.Proofs.Tryz.func69, k69 u, n69⟩
/--   ratline parse.parser .want -/
noncomputable def T70 : TFun := fun _ call _ args h => sEnd (
uncons args fun x0_1 vs_2 =>
uncons vs_2 fun x1_3 vs_4 =>
unnil vs_4 (bnd2 (call 71 [x0_1, x1_3] h) fun t6_5 h_6 =>
bnd (unF .not t6_5) fun t7_7 =>
sIf t7_7 (
bnd2 (call 28 [x0_1, (.int .i64 (.ofNat 10))] h_6) fun _ h_9 =>
some (SOut.ret (.tuple []) h_9)) (
some (SOut.ret (.tuple []) h_6))))
theorem r70 : sRun s70 = T70 := by kernel_rfl
theorem e70 (u : Nat → Value → Prop) : TOK Go.Proofs.Tryz.prog (cfg u [] []) 70 T70 := .inr ⟨s70, _, _, _, r70.symm, Go.Proofs.Tryz.func70, k70 u, n70⟩
noncomputable def T71c1 (x0_1 : GVal) (h_6 : GHeap) : SRes :=
bnd (nilChkF x0_1) fun t10_8 =>
bnd (fieldAF 1 t10_8) fun t11_9 =>
bnd (loadF h_6 1 false t11_9) fun t12_10 =>
bnd (catF t12_10 (.int .i64 (.ofNat 1))) fun t13_11 =>
bnd (nilChkF x0_1) fun t14_12 =>
bnd (fieldAF 1 t14_12) fun t15_13 =>
bnd2 (storeF h_6 1 t15_13 t13_11) fun _ h_15 =>
some (SOut.ret (.bool true) h_15)
/--   ratline parse.parser .op -/
noncomputable def T71 : TFun := fun _ call _ args h => sEnd (
uncons args fun x0_1 vs_2 =>
uncons vs_2 fun x1_3 vs_4 =>
unnil vs_4 (bnd2 (call 93 [x0_1, (.int .i64 (.ofNat 6)), x1_3] h) fun t7_5 h_6 =>
bnd (unF .not t7_5) fun t8_7 =>
sIf t8_7 (
some (SOut.ret (.bool false) h_6)) (
T71c1 x0_1 h_6)))
theorem r71 : sRun s71 = T71 := by kernel_rfl
theorem e71 (u : Nat → Value → Prop) : TOK Go.Proofs.Tryz.prog (cfg u [] []) 71 T71 := .inr ⟨s71, _, _, _, r71.symm, Go.Proofs.Tryz.func71, k71 u, n71⟩
noncomputable def T72c1 (h_11 : GHeap) (t1_3 : GVal) (call : CallF) : SRes :=
bnd (loadF h_11 1 false t1_3) fun t5_14 =>
bnd2 (call 93 [t5_14, (.int .i64 (.ofNat 6)), (.str [123])] h_11) fun t6_15 h_16 =>
bnd (unF .not t6_15) fun t7_17 =>
sIf t7_17 (
bnd (loadF h_16 1 false t1_3) fun t8_18 =>
bnd2 (call 28 [t8_18, (.int .i64 (.ofNat 10))] h_16) fun _ h_20 =>
some (SOut.normal [] h_20)) (
some (SOut.normal [] h_16))
noncomputable def T72c2 (h_11 : GHeap) (t1_3 : GVal) (call : CallF) (t3_8 : GVal) (t2_5 : GVal) : SRes :=
sJoin (T72c1 h_11 t1_3 call) fun vs_12 h_13 =>
unnil vs_12 (bnd (loadF h_13 1 false t1_3) fun t10_21 =>
bnd (some (GVal.func (.func 101) [] [t1_3, t3_8])) fun t11_22 =>
bnd2 (call 94 [t10_21, t11_22] h_13) fun _ h_24 =>
bnd (loadF h_24 5 true t3_8) fun t13_25 =>
bnd2 (storeF h_24 5 t2_5 t13_25) fun _ h_27 =>
bnd (loadF h_27 5 true t2_5) fun r_28 =>
some (SOut.ret r_28 h_27))
/--   ratline parse.parser .block -/
noncomputable def T72 : TFun := fun _ call _ args h => sEnd (
uncons args fun x0_1 vs_2 =>
unnil vs_2 (bnd2 (boxF h 1 x0_1) fun t1_3 h_4 =>
bnd2 (allocV [(.int .i64 (.ofNat 0)), (.int .i64 (.ofNat 0)), (.str []), (.int .i64 (.ofNat 0)), .nils] h_4) fun t2_5 h_6 =>
bnd (buildF [(.int .i64 (.ofNat 0)), (.int .i64 (.ofNat 0)), (.str []), (.int .i64 (.ofNat 0)), .nils] [(0, 1, (.int .i64 (.ofNat 10)))]) fun t4_7 =>
bnd2 (allocV [(.int .i64 (.ofNat 0)), (.int .i64 (.ofNat 0)), (.str []), (.int .i64 (.ofNat 0)), .nils] h_6) fun t3_8 h_9 =>
bnd2 (storeF h_9 5 t3_8 t4_7) fun _ h_11 =>
T72c2 h_11 t1_3 call t3_8 t2_5))
theorem r72 : sRun s72 = T72 := by kernel_rfl
theorem e72 (u : Nat → Value → Prop) : TOK Go.Proofs.Tryz.prog (cfg u [] []) 72 T72 := .inr ⟨s72, _, _, _, r72.symm, Go.Proofs.Tryz.func72, k72 u, n72⟩
noncomputable def T73c1 (call : CallF) (x0_1 : GVal) (t14_16 : GVal) (h_6 : GHeap) (t3_5 : GVal) : SRes :=
bnd2 (call 33 [x0_1, t14_16] h_6) fun _ h_18 =>
bnd (loadF h_18 5 true t3_5) fun t17_19 =>
bnd2 (call 78 [t17_19, (.int .i64 (.ofNat 0))] h_18) fun t18_20 h_21 =>
bnd2 (call 21 [x0_1, t18_20, (.int .i64 (.ofNat 1))] h_21) fun _ h_23 =>
bnd (loadF h_23 5 true t3_5) fun t21_24 =>
bnd2 (call 78 [t21_24, (.int .i64 (.ofNat 1))] h_23) fun t22_25 h_26 =>
bnd2 (call 34 [x0_1, t22_25] h_26) fun _ h_28 =>
some (SOut.ret (.tuple []) h_28)
noncomputable def T73c2 (t49_49 : GVal) (call : CallF) (x0_1 : GVal) (h_6 : GHeap) (t5_8 : GVal) : SRes :=
sIf t49_49 (
bnd (buildSlF (.str []) 1 1 [(0, (.str [114, 101, 116, 117, 114, 110]))]) fun t51_50 =>
bnd2 (call 33 [x0_1, t51_50] h_6) fun _ h_52 =>
some (SOut.normal [] h_52)) (
bnd (eqlF t5_8 (.int .i64 (.ofNat 8))) fun t54_53 =>
sIf t54_53 (
bnd (buildSlF (.str []) 1 1 [(0, (.str [112, 114, 105, 110, 116]))]) fun t56_54 =>
bnd2 (call 33 [x0_1, t56_54] h_6) fun _ h_56 =>
some (SOut.normal [] h_56)) (
some (SOut.normal [] h_6)))
noncomputable def T73c3 (t39_41 : GVal) (call : CallF) (x0_1 : GVal) (h_6 : GHeap) (t5_8 : GVal) : SRes :=
sIf t39_41 (
bnd (buildSlF (.str []) 1 1 [(0, (.str [98, 114, 101, 97, 107]))]) fun t41_42 =>
bnd2 (call 33 [x0_1, t41_42] h_6) fun _ h_44 =>
some (SOut.normal [] h_44)) (
bnd (eqlF t5_8 (.int .i64 (.ofNat 6))) fun t44_45 =>
sIf t44_45 (
bnd (buildSlF (.str []) 1 1 [(0, (.str [99, 111, 110, 116, 105, 110, 117, 101]))]) fun t46_46 =>
bnd2 (call 33 [x0_1, t46_46] h_6) fun _ h_48 =>
some (SOut.normal [] h_48)) (
bnd (eqlF t5_8 (.int .i64 (.ofNat 7))) fun t49_49 =>
T73c2 t49_49 call x0_1 h_6 t5_8))
noncomputable def T73c4 (t32_35 : GVal) (t3_5 : GVal) (h_6 : GHeap) (call : CallF) (x0_1 : GVal) (t5_8 : GVal) : SRes :=
sIf t32_35 (
bnd (fieldAF 2 t3_5) fun t34_36 =>
bnd (loadF h_6 1 false t34_36) fun t35_37 =>
bnd (buildSlF (.str []) 1 2 [(0, t35_37), (1, (.str [61]))]) fun t36_38 =>
bnd2 (call 33 [x0_1, t36_38] h_6) fun _ h_40 =>
some (SOut.normal [] h_40)) (
bnd (eqlF t5_8 (.int .i64 (.ofNat 5))) fun t39_41 =>
T73c3 t39_41 call x0_1 h_6 t5_8)
noncomputable def T73c5 (t25_29 : GVal) (t3_5 : GVal) (h_6 : GHeap) (call : CallF) (x0_1 : GVal) (t5_8 : GVal) : SRes :=
sIf t25_29 (
bnd (fieldAF 2 t3_5) fun t27_30 =>
bnd (loadF h_6 1 false t27_30) fun t28_31 =>
bnd (buildSlF (.str []) 1 3 [(0, (.str [108, 101, 116])), (1, t28_31), (2, (.str [61]))]) fun t29_32 =>
bnd2 (call 33 [x0_1, t29_32] h_6) fun _ h_34 =>
some (SOut.normal [] h_34)) (
bnd (eqlF t5_8 (.int .i64 (.ofNat 2))) fun t32_35 =>
T73c4 t32_35 t3_5 h_6 call x0_1 t5_8)
noncomputable def T73c6 (t7_11 : GVal) (h_6 : GHeap) (t3_5 : GVal) (call : CallF) (x0_1 : GVal) (t5_8 : GVal) : SRes :=
sIf t7_11 (
bnd (loadF h_6 5 true t3_5) fun t9_12 =>
bnd2 (call 103 [x0_1, t9_12] h_6) fun _ h_14 =>
some (SOut.ret (.tuple []) h_14)) (
bnd (eqlF t5_8 (.int .i64 (.ofNat 4))) fun t12_15 =>
sIf t12_15 (
bnd (buildSlF (.str []) 1 1 [(0, (.str [119, 104, 105, 108, 101]))]) fun t14_16 =>
T73c1 call x0_1 t14_16 h_6 t3_5) (
bnd (eqlF t5_8 (.int .i64 (.ofNat 1))) fun t25_29 =>
T73c5 t25_29 t3_5 h_6 call x0_1 t5_8))
noncomputable def T73c7 (t5_8 : GVal) (h_6 : GHeap) (t3_5 : GVal) (call : CallF) (x0_1 : GVal) : SRes :=
sBlk 0 (bnd (eqlF t5_8 (.int .i64 (.ofNat 3))) fun t7_11 =>
T73c6 t7_11 h_6 t3_5 call x0_1 t5_8) fun vs_9 h_10 =>
unnil vs_9 (bnd (fieldAF 4 t3_5) fun t59_57 =>
bnd (loadF h_10 1 false t59_57) fun t60_58 =>
bnd2 (call 81 [x0_1, t60_58] h_10) fun _ h_60 =>
bnd (buildSlF (.str []) 1 1 [(0, (.str [59]))]) fun t63_61 =>
bnd2 (call 33 [x0_1, t63_61] h_60) fun _ h_63 =>
some (SOut.ret (.tuple []) h_63))
/--   ratline parse.printer .statement -/
noncomputable def T73 : TFun := fun _ call _ args h => sEnd (
uncons args fun x0_1 vs_2 =>
uncons vs_2 fun x1_3 vs_4 =>
unnil vs_4 (bnd2 (boxF h 5 x1_3) fun t3_5 h_6 =>
bnd (fieldAF 0 t3_5) fun t4_7 =>
bnd (loadF h_6 1 false t4_7) fun t5_8 =>
T73c7 t5_8 h_6 t3_5 call x0_1))
theorem r73 : sRun s73 = T73 := by kernel_rfl
theorem e73 (u : Nat → Value → Prop) : TOK Go.Proofs.Tryz.prog (cfg u [] []) 73 T73 := .inr ⟨s73, _, _, _, r73.symm, Go.Proofs.Tryz.func73, k73 u, n73⟩
noncomputable def T75c1 (t6_19 : GVal) (h_22 : GHeap) (x1_3 : GVal) : SRes :=
bnd (fieldAF 1 t6_19) fun t14_23 =>
bnd (loadF h_22 1 false t14_23) fun t15_24 =>
bnd (eqlF t15_24 x1_3) fun t17_25 =>
sIf t17_25 (
bnd (fieldAF 0 t6_19) fun t18_26 =>
bnd (loadF h_22 1 false t18_26) fun t19_27 =>
some (SOut.ret t19_27 h_22)) (
some (SOut.normal [] h_22))
noncomputable def T75c2 (t11_14 : GVal) (t8_5 : GVal) (x10_12 : GVal) (h_11 : GHeap) (x1_3 : GVal) : SRes :=
sIf t11_14 (
sBlk 1 (bnd (ixSF 2 t8_5 x10_12) fun t12_17 =>
bnd (loadF h_11 2 true t12_17) fun t13_18 =>
bnd2 (allocV [(.str []), (.int .i64 (.ofNat 0))] h_11) fun t6_19 h_20 =>
bnd2 (storeF h_20 2 t6_19 t13_18) fun _ h_22 =>
T75c1 t6_19 h_22 x1_3) fun vs_15 h_16 =>
unnil vs_15 (bnd (catF x10_12 (.int .i64 (.ofNat 1))) fun t20_28 =>
some (SOut.normal [t20_28] h_16))) (
some (SOut.exit 0 [] h_11))
/-- ratline parse.sign -/
noncomputable def T75 : TFun := fun _ call n args h => sEnd (
uncons args fun x0_1 vs_2 =>
uncons vs_2 fun x1_3 vs_4 =>
unnil vs_4 (bnd2 (call 106 [x0_1] h) fun t8_5 h_6 =>
bnd (lenF false t8_5) fun t9_7 =>
sBlk 0 (sLoop (fun vs_10 h_11 =>
uncons vs_10 fun x10_12 vs_13 =>
unnil vs_13 (bnd (lssF x10_12 t9_7) fun t11_14 =>
T75c2 t11_14 t8_5 x10_12 h_11 x1_3)) n [(.int .i64 (.ofNat 0))] h_6) fun vs_8 h_9 =>
unnil vs_8 (some (SOut.ret (.str []) h_9))))
theorem r75 : sRun s75 = T75 := by kernel_rfl
theorem e75 (u : Nat → Value → Prop) : TOK Go.Proofs.Tryz.prog (cfg u [] []) 75 T75 := .inr ⟨s75, _, _, _, r75.symm, Go.Proofs.Tryz.func75, k75 u, n75⟩
noncomputable def T76c1 (call : CallF) (x0_1 : GVal) (t17_19 : GVal) (x7_16 : GVal) (h_20 : GHeap) (x2_5 : GVal) (t4_7 : GVal) (t9_10 : GVal) : SRes :=
bnd2 (call 21 [x0_1, t17_19, x7_16] h_20) fun _ h_22 =>
bnd (buildSlF (.str []) 1 1 [(0, x2_5)]) fun t22_23 =>
bnd2 (call 33 [x0_1, t22_23] h_22) fun _ h_25 =>
bnd (loadF h_25 5 true t4_7) fun t25_26 =>
bnd2 (call 78 [t25_26, (.int .i64 (.ofNat 1))] h_25) fun t26_27 h_28 =>
bnd (catF t9_10 (.int .i64 (.ofNat 1))) fun t28_29 =>
bnd2 (call 21 [x0_1, t26_27, t28_29] h_28) fun _ h_31 =>
some (SOut.ret (.tuple []) h_31)
noncomputable def T76c2 (t9_10 : GVal) (h_11 : GHeap) (t4_7 : GVal) (call : CallF) (x0_1 : GVal) (x2_5 : GVal) : SRes :=
sJoin (bnd (eqlF t9_10 (.int .i64 (.ofNat 3))) fun t12_14 =>
sIf t12_14 (
bnd (catF t9_10 (.int .i64 (.ofNat 1))) fun t14_15 =>
some (SOut.normal [t14_15] h_11)) (
some (SOut.normal [t9_10] h_11))) fun vs_12 h_13 =>
uncons vs_12 fun x7_16 vs_17 =>
unnil vs_17 (bnd (loadF h_13 5 true t4_7) fun t16_18 =>
bnd2 (call 78 [t16_18, (.int .i64 (.ofNat 0))] h_13) fun t17_19 h_20 =>
T76c1 call x0_1 t17_19 x7_16 h_20 x2_5 t4_7 t9_10)
/--   ratline parse.printer .two -/
noncomputable def T76 : TFun := fun _ call _ args h => sEnd (
uncons args fun x0_1 vs_2 =>
uncons vs_2 fun x1_3 vs_4 =>
uncons vs_4 fun x2_5 vs_6 =>
unnil vs_6 (bnd2 (boxF h 5 x1_3) fun t4_7 h_8 =>
bnd (loadF h_8 5 true t4_7) fun t8_9 =>
bnd2 (call 39 [t8_9] h_8) fun t9_10 h_11 =>
T76c2 t9_10 h_11 t4_7 call x0_1 x2_5))
theorem r76 : sRun s76 = T76 := by kernel_rfl
theorem e76 (u : Nat → Value → Prop) : TOK Go.Proofs.Tryz.prog (cfg u [] []) 76 T76 := .inr ⟨s76, _, _, _, r76.symm, Go.Proofs.Tryz.func76, k76 u, n76⟩
noncomputable def T77c1 (call : CallF) (x0_1 : GVal) (h_22 : GHeap) (t3_5 : GVal) : SRes :=
bnd (buildSlF (.str []) 1 1 [(0, (.str [91]))]) fun t21_23 =>
bnd2 (call 33 [x0_1, t21_23] h_22) fun _ h_25 =>
bnd (loadF h_25 5 true t3_5) fun t24_26 =>
bnd2 (call 78 [t24_26, (.int .i64 (.ofNat 1))] h_25) fun t25_27 h_28 =>
bnd2 (call 21 [x0_1, t25_27, (.int .i64 (.ofNat 1))] h_28) fun _ h_30 =>
bnd (buildSlF (.str []) 1 1 [(0, (.str [93]))]) fun t28_31 =>
bnd2 (call 33 [x0_1, t28_31] h_30) fun _ h_33 =>
some (SOut.ret (.tuple []) h_33)
noncomputable def T77c2 (t8_10 : GVal) (h_9 : GHeap) (t3_5 : GVal) (call : CallF) (t6_8 : GVal) (x0_1 : GVal) : SRes :=
sIf t8_10 (
bnd (loadF h_9 5 true t3_5) fun t10_11 =>
bnd (fieldAF 1 t3_5) fun t12_12 =>
bnd (loadF h_9 1 false t12_12) fun t13_13 =>
bnd2 (call 75 [t6_8, t13_13] h_9) fun t14_14 h_15 =>
bnd2 (call 76 [x0_1, t10_11, t14_14] h_15) fun _ h_17 =>
guardS (((chkV (loadV h_15 5 true t3_5) t10_11) && true) && true) (
some (SOut.ret (.tuple []) h_17))) (
bnd (loadF h_9 5 true t3_5) fun t17_18 =>
bnd2 (call 78 [t17_18, (.int .i64 (.ofNat 0))] h_9) fun t18_19 h_20 =>
bnd2 (call 21 [x0_1, t18_19, (.int .i64 (.ofNat 7))] h_20) fun _ h_22 =>
T77c1 call x0_1 h_22 t3_5)
/--   ratline parse.printer .bin -/
noncomputable def T77 : TFun := fun _ call _ args h => sEnd (
uncons args fun x0_1 vs_2 =>
uncons vs_2 fun x1_3 vs_4 =>
unnil vs_4 (bnd2 (boxF h 5 x1_3) fun t3_5 h_6 =>
bnd (loadF h_6 5 true t3_5) fun t5_7 =>
bnd2 (call 39 [t5_7] h_6) fun t6_8 h_9 =>
bnd (lssF t6_8 (.int .i64 (.ofNat 7))) fun t8_10 =>
T77c2 t8_10 h_9 t3_5 call t6_8 x0_1))
theorem r77 : sRun s77 = T77 := by kernel_rfl
theorem e77 (u : Nat → Value → Prop) : TOK Go.Proofs.Tryz.prog (cfg u [] []) 77 T77 := .inr ⟨s77, _, _, _, r77.symm, Go.Proofs.Tryz.func77, k77 u, n77⟩
noncomputable def T78c1 (t9_12 : GVal) (t2_5 : GVal) (h_8 : GHeap) (x1_3 : GVal) (t4_7 : GVal) : SRes :=
sIf t9_12 (
bnd (fieldAF 4 t2_5) fun t10_13 =>
bnd (loadF h_8 1 false t10_13) fun t11_14 =>
bnd (ixSF 5 t11_14 x1_3) fun t13_15 =>
bnd (loadF h_8 5 true t13_15) fun t14_16 =>
bnd2 (storeF h_8 5 t4_7 t14_16) fun _ h_18 =>
bnd (loadF h_18 5 true t4_7) fun r_19 =>
some (SOut.ret r_19 h_18)) (
bnd (buildF [(.int .i64 (.ofNat 0)), (.int .i64 (.ofNat 0)), (.str []), (.int .i64 (.ofNat 0)), .nils] []) fun t15_20 =>
bnd2 (storeF h_8 5 t4_7 t15_20) fun _ h_22 =>
bnd (loadF h_22 5 true t4_7) fun r_23 =>
some (SOut.ret r_23 h_22))
/-- ratline parse.At -/
noncomputable def T78 : TFun := fun _ _ _ args h => sEnd (
uncons args fun x0_1 vs_2 =>
uncons vs_2 fun x1_3 vs_4 =>
unnil vs_4 (bnd2 (boxF h 5 x0_1) fun t2_5 h_6 =>
bnd2 (allocV [(.int .i64 (.ofNat 0)), (.int .i64 (.ofNat 0)), (.str []), (.int .i64 (.ofNat 0)), .nils] h_6) fun t4_7 h_8 =>
bnd (fieldAF 4 t2_5) fun t6_9 =>
bnd (loadF h_8 1 false t6_9) fun t7_10 =>
bnd (lenF false t7_10) fun t8_11 =>
bnd (lssF x1_3 t8_11) fun t9_12 =>
T78c1 t9_12 t2_5 h_8 x1_3 t4_7))
theorem r78 : sRun s78 = T78 := by kernel_rfl
theorem e78 (u : Nat → Value → Prop) : TOK Go.Proofs.Tryz.prog (cfg u [] []) 78 T78 := .inr ⟨s78, _, _, _, r78.symm, Go.Proofs.Tryz.func78, k78 u, n78⟩
/-- strconv.FormatInt -/
noncomputable def T79 : TFun := fun _ call _ args h => sEnd (
uncons args fun x0_1 vs_2 =>
uncons vs_2 fun x1_3 vs_4 =>
unnil vs_4 (bnd2 (call 107 [x0_1, x1_3] h) fun t7_5 h_6 =>
some (SOut.ret t7_5 h_6)))
theorem r79 : sRun s79 = T79 := by kernel_rfl
theorem e79 (u : Nat → Value → Prop) : TOK Go.Proofs.Tryz.prog (cfg u [] []) 79 T79 := .inr ⟨s79, _, _, _, r79.symm, Go.Proofs.Tryz.func79, k79 u, n79⟩
noncomputable def T90c1 (vs_15 : List GVal) (t13_14 : GVal) (x0_1 : GVal) (t9_12 : GVal) (call : CallF) (h_16 : GHeap) : SRes :=
uncons vs_15 fun x18_19 vs_20 =>
unnil vs_20 (bnd (pickF t13_14 x18_19 (.bool false)) fun t19_21 =>
sIf t19_21 (
bnd (sliceStrF x0_1 (some t9_12) none) fun t23_22 =>
bnd2 (call 115 [t23_22, (.func (.func 117) [] [])] h_16) fun t24_23 h_24 =>
bnd (catF t9_12 t24_23) fun t25_25 =>
some (SOut.goto 0 [t25_25] h_24)) (
some (SOut.ret t9_12 h_16)))
noncomputable def T90c2 (x3_7 : GVal) (t8_10 : GVal) (x0_1 : GVal) (h_11 : GHeap) (call : CallF) : SRes :=
bnd (catF x3_7 t8_10) fun t9_12 =>
bnd (lenF true x0_1) fun t12_13 =>
bnd (lssF t9_12 t12_13) fun t13_14 =>
sJoin (gIf t13_14 true (
bnd (ixStrF x0_1 t9_12) fun t17_17 =>
bnd (eqlF t17_17 (.int .u8 (.ofNat 35))) fun t18_18 =>
some (SOut.normal [t18_18] h_11)) (some (SOut.normal [gundef] h_11))) fun vs_15 h_16 =>
T90c1 vs_15 t13_14 x0_1 t9_12 call h_16
noncomputable def T90c3 (vs_32 : List GVal) (t13_31 : GVal) (x0_1 : GVal) (t9_29 : GVal) (call : CallF) (h_33 : GHeap) : SRes :=
uncons vs_32 fun x18_36 vs_37 =>
unnil vs_37 (bnd (pickF t13_31 x18_36 (.bool false)) fun t19_38 =>
sIf t19_38 (
bnd (sliceStrF x0_1 (some t9_29) none) fun t23_39 =>
bnd2 (call 115 [t23_39, (.func (.func 117) [] [])] h_33) fun t24_40 h_41 =>
bnd (catF t9_29 t24_40) fun t25_42 =>
some (SOut.goto 0 [t25_42] h_41)) (
some (SOut.ret t9_29 h_33)))
noncomputable def T90c4 (t8_27 : GVal) (x0_1 : GVal) (h_28 : GHeap) (call : CallF) : SRes :=
bnd (catF (.int .i64 (.ofNat 0)) t8_27) fun t9_29 =>
bnd (lenF true x0_1) fun t12_30 =>
bnd (lssF t9_29 t12_30) fun t13_31 =>
sJoin (gIf t13_31 true (
bnd (ixStrF x0_1 t9_29) fun t17_34 =>
bnd (eqlF t17_34 (.int .u8 (.ofNat 35))) fun t18_35 =>
some (SOut.normal [t18_35] h_28)) (some (SOut.normal [gundef] h_28))) fun vs_32 h_33 =>
T90c3 vs_32 t13_31 x0_1 t9_29 call h_33
noncomputable def T90c5 (x0_1 : GVal) (call : CallF) (n : Nat) (h : GHeap) : SRes :=
sJoin (sJumps 0 (fun vs_3 h_4 =>
uncons vs_3 fun x3_7 vs_8 =>
unnil vs_8 (bnd (sliceStrF x0_1 (some x3_7) none) fun t7_9 =>
bnd2 (call 115 [t7_9, (.func (.func 116) [] [])] h_4) fun t8_10 h_11 =>
T90c2 x3_7 t8_10 x0_1 h_11 call)) n (bnd (sliceStrF x0_1 (some (.int .i64 (.ofNat 0))) none) fun t7_26 =>
bnd2 (call 115 [t7_26, (.func (.func 116) [] [])] h) fun t8_27 h_28 =>
T90c4 t8_27 x0_1 h_28 call)) fun vs_5 h_6 =>
uncons vs_5 fun x2_43 vs_44 =>
unnil vs_44 (some (SOut.ret x2_43 h_6))
/-- ratline lex.skip -/
noncomputable def T90 : TFun := fun _ call n args h => sEnd (
uncons args fun x0_1 vs_2 =>
unnil vs_2 (T90c5 x0_1 call n h))
theorem r90 : sRun s90 = T90 := by kernel_rfl
theorem e90 (u : Nat → Value → Prop) : TOK Go.Proofs.Tryz.prog (cfg u [] []) 90 T90 := .inr ⟨s90, _, _, _, r90.symm, Go.Proofs.Tryz.func90, k90 u, n90⟩
noncomputable def T91c1 (t23_28 : GVal) (call : CallF) (x0_1 : GVal) (h_19 : GHeap) (t2_3 : GVal) : SRes :=
sIf t23_28 (
bnd2 (call 122 [x0_1] h_19) fun t25_29 h_30 =>
bnd (extrF 0 t25_29) fun t26_31 =>
bnd (extrF 1 t25_29) fun t27_32 =>
bnd2 (storeF h_30 4 t2_3 t26_31) fun _ h_34 =>
bnd (loadF h_34 4 true t2_3) fun r_35 =>
some (SOut.ret (.tuple [r_35, t27_32]) h_34)) (
some (SOut.normal [] h_19))
noncomputable def T91c2 (t15_18 : GVal) (call : CallF) (x0_1 : GVal) (h_19 : GHeap) (t2_3 : GVal) : SRes :=
sIf t15_18 (
bnd2 (call 121 [x0_1] h_19) fun t17_20 h_21 =>
bnd (extrF 0 t17_20) fun t18_22 =>
bnd (extrF 1 t17_20) fun t19_23 =>
bnd2 (storeF h_21 4 t2_3 t18_22) fun _ h_25 =>
bnd (loadF h_25 4 true t2_3) fun r_26 =>
some (SOut.ret (.tuple [r_26, t19_23]) h_25)) (
bnd (ixStrF x0_1 (.int .i64 (.ofNat 0))) fun t22_27 =>
bnd (eqlF t22_27 (.int .u8 (.ofNat 34))) fun t23_28 =>
T91c1 t23_28 call x0_1 h_19 t2_3)
noncomputable def T91c3 (t7_8 : GVal) (call : CallF) (x0_1 : GVal) (h_9 : GHeap) (t2_3 : GVal) : SRes :=
sIf t7_8 (
bnd2 (call 119 [x0_1] h_9) fun t9_10 h_11 =>
bnd (extrF 0 t9_10) fun t10_12 =>
bnd (extrF 1 t9_10) fun t11_13 =>
bnd2 (storeF h_11 4 t2_3 t10_12) fun _ h_15 =>
bnd (loadF h_15 4 true t2_3) fun r_16 =>
some (SOut.ret (.tuple [r_16, t11_13]) h_15)) (
bnd (ixStrF x0_1 (.int .i64 (.ofNat 0))) fun t14_17 =>
bnd2 (call 120 [t14_17] h_9) fun t15_18 h_19 =>
T91c2 t15_18 call x0_1 h_19 t2_3)
noncomputable def T91c4 (x0_1 : GVal) (call : CallF) (h_4 : GHeap) (t2_3 : GVal) : SRes :=
sBlk 0 (bnd (ixStrF x0_1 (.int .i64 (.ofNat 0))) fun t6_7 =>
bnd2 (call 118 [t6_7] h_4) fun t7_8 h_9 =>
T91c3 t7_8 call x0_1 h_9 t2_3) fun vs_5 h_6 =>
unnil vs_5 (bnd2 (call 123 [x0_1] h_6) fun t29_36 h_37 =>
bnd (extrF 0 t29_36) fun t30_38 =>
bnd (extrF 1 t29_36) fun t31_39 =>
bnd2 (storeF h_37 4 t2_3 t30_38) fun _ h_41 =>
bnd (loadF h_41 4 true t2_3) fun r_42 =>
some (SOut.ret (.tuple [r_42, t31_39]) h_41))
/-- ratline lex.token -/
noncomputable def T91 : TFun := fun _ call _ args h => sEnd (
uncons args fun x0_1 vs_2 =>
unnil vs_2 (bnd2 (allocV [(.int .i64 (.ofNat 0)), (.str []), (.int .i64 (.ofNat 0)), (.int .i64 (.ofNat 0))] h) fun t2_3 h_4 =>
T91c4 x0_1 call h_4 t2_3))
theorem r91 : sRun s91 = T91 := by kernel_rfl
theorem e91 (u : Nat → Value → Prop) : TOK Go.Proofs.Tryz.prog (cfg u [] []) 91 T91 := .inr ⟨s91, _, _, _, r91.symm, Go.Proofs.Tryz.func91, k91 u, n91⟩
noncomputable def T92c1 (t6_19 : GVal) (h_22 : GHeap) (call : CallF) (x0_1 : GVal) : SRes :=
bnd (fieldAF 0 t6_19) fun t15_23 =>
bnd (loadF h_22 1 false t15_23) fun t16_24 =>
bnd2 (call 71 [x0_1, t16_24] h_22) fun t17_25 h_26 =>
sIf t17_25 (
bnd (fieldAF 1 t6_19) fun t18_27 =>
bnd (loadF h_26 1 false t18_27) fun t19_28 =>
some (SOut.ret t19_28 h_26)) (
some (SOut.normal [] h_26))
noncomputable def T92c2 (t11_14 : GVal) (t8_5 : GVal) (x10_12 : GVal) (h_11 : GHeap) (call : CallF) (x0_1 : GVal) : SRes :=
sIf t11_14 (
sBlk 1 (bnd (ixSF 2 t8_5 x10_12) fun t12_17 =>
bnd (loadF h_11 2 true t12_17) fun t13_18 =>
bnd2 (allocV [(.str []), (.int .i64 (.ofNat 0))] h_11) fun t6_19 h_20 =>
bnd2 (storeF h_20 2 t6_19 t13_18) fun _ h_22 =>
T92c1 t6_19 h_22 call x0_1) fun vs_15 h_16 =>
unnil vs_15 (bnd (catF x10_12 (.int .i64 (.ofNat 1))) fun t20_29 =>
some (SOut.normal [t20_29] h_16))) (
some (SOut.exit 0 [] h_11))
/--   ratline parse.parser .find -/
noncomputable def T92 : TFun := fun _ call n args h => sEnd (
uncons args fun x0_1 vs_2 =>
uncons vs_2 fun x1_3 vs_4 =>
unnil vs_4 (bnd2 (call 106 [x1_3] h) fun t8_5 h_6 =>
bnd (lenF false t8_5) fun t9_7 =>
sBlk 0 (sLoop (fun vs_10 h_11 =>
uncons vs_10 fun x10_12 vs_13 =>
unnil vs_13 (bnd (lssF x10_12 t9_7) fun t11_14 =>
T92c2 t11_14 t8_5 x10_12 h_11 call x0_1)) n [(.int .i64 (.ofNat 0))] h_6) fun vs_8 h_9 =>
unnil vs_8 (some (SOut.ret (.int .i64 (.ofNat 0)) h_9))))
theorem r92 : sRun s92 = T92 := by kernel_rfl
theorem e92 (u : Nat → Value → Prop) : TOK Go.Proofs.Tryz.prog (cfg u [] []) 92 T92 := .inr ⟨s92, _, _, _, r92.symm, Go.Proofs.Tryz.func92, k92 u, n92⟩
noncomputable def T93c1 (t14_13 : GVal) (h : GHeap) (x0_1 : GVal) : SRes :=
bnd (fieldAF 1 t14_13) fun t15_14 =>
bnd (loadF h 1 false t15_14) fun t16_15 =>
bnd (nilChkF x0_1) fun t18_16 =>
bnd (fieldAF 0 t18_16) fun t19_17 =>
bnd (loadF h 1 false t19_17) fun t20_18 =>
bnd (lenF false t20_18) fun t21_19 =>
bnd (lssF t16_15 t21_19) fun t22_20 =>
some (SOut.normal [t22_20] h)
noncomputable def T93c2 (x0_1 : GVal) (h_12 : GHeap) (t28_28 : GVal) (x1_3 : GVal) : SRes :=
bnd (nilChkF x0_1) fun t30_29 =>
bnd (fieldAF 1 t30_29) fun t31_30 =>
bnd (loadF h_12 1 false t31_30) fun t32_31 =>
bnd (ixSF 4 t28_28 t32_31) fun t33_32 =>
bnd (fieldAF 0 t33_32) fun t34_33 =>
bnd (loadF h_12 1 false t34_33) fun t35_34 =>
bnd (eqlF t35_34 x1_3) fun t37_35 =>
some (SOut.normal [t37_35] h_12)
noncomputable def T93c3 (x0_1 : GVal) (h_25 : GHeap) (t43_43 : GVal) (x2_5 : GVal) : SRes :=
bnd (nilChkF x0_1) fun t45_44 =>
bnd (fieldAF 1 t45_44) fun t46_45 =>
bnd (loadF h_25 1 false t46_45) fun t47_46 =>
bnd (ixSF 4 t43_43 t47_46) fun t48_47 =>
bnd (fieldAF 1 t48_47) fun t49_48 =>
bnd (loadF h_25 1 false t49_48) fun t50_49 =>
bnd (eqlF t50_49 x2_5) fun t52_50 =>
some (SOut.normal [t52_50] h_25)
noncomputable def T93c4 (t38_38 : GVal) (x0_1 : GVal) (h_25 : GHeap) (x2_5 : GVal) : SRes :=
sJoin (gIf t38_38 true (
bnd (nilChkF x0_1) fun t41_41 =>
bnd (fieldAF 0 t41_41) fun t42_42 =>
bnd (loadF h_25 1 false t42_42) fun t43_43 =>
T93c3 x0_1 h_25 t43_43 x2_5) (some (SOut.normal [gundef] h_25))) fun vs_39 h_40 =>
uncons vs_39 fun x52_51 vs_52 =>
unnil vs_52 (bnd (pickF t38_38 x52_51 (.bool false)) fun t53_53 =>
some (SOut.ret t53_53 h_40))
noncomputable def T93c5 (t23_23 : GVal) (x0_1 : GVal) (h_12 : GHeap) (x1_3 : GVal) (x2_5 : GVal) : SRes :=
sJoin (gIf t23_23 true (
bnd (nilChkF x0_1) fun t26_26 =>
bnd (fieldAF 0 t26_26) fun t27_27 =>
bnd (loadF h_12 1 false t27_27) fun t28_28 =>
T93c2 x0_1 h_12 t28_28 x1_3) (some (SOut.normal [gundef] h_12))) fun vs_24 h_25 =>
uncons vs_24 fun x37_36 vs_37 =>
unnil vs_37 (bnd (pickF t23_23 x37_36 (.bool false)) fun t38_38 =>
T93c4 t38_38 x0_1 h_25 x2_5)
noncomputable def T93c6 (h : GHeap) (t9_8 : GVal) (x0_1 : GVal) (x1_3 : GVal) (x2_5 : GVal) : SRes :=
bnd (loadF h 1 false t9_8) fun t10_9 =>
bnd (eqlF t10_9 (.int .i64 (.ofNat 0))) fun t11_10 =>
sJoin (gIf t11_10 true (
bnd (nilChkF x0_1) fun t14_13 =>
T93c1 t14_13 h x0_1) (some (SOut.normal [gundef] h))) fun vs_11 h_12 =>
uncons vs_11 fun x22_21 vs_22 =>
unnil vs_22 (bnd (pickF t11_10 x22_21 (.bool false)) fun t23_23 =>
T93c5 t23_23 x0_1 h_12 x1_3 x2_5)
/--   ratline parse.parser .is -/
noncomputable def T93 : TFun := fun _ _ _ args h => sEnd (
uncons args fun x0_1 vs_2 =>
uncons vs_2 fun x1_3 vs_4 =>
uncons vs_4 fun x2_5 vs_6 =>
unnil vs_6 (bnd (nilChkF x0_1) fun t8_7 =>
bnd (fieldAF 5 t8_7) fun t9_8 =>
T93c6 h t9_8 x0_1 x1_3 x2_5))
theorem r93 : sRun s93 = T93 := by kernel_rfl
theorem e93 (u : Nat → Value → Prop) : TOK Go.Proofs.Tryz.prog (cfg u [] []) 93 T93 := .inr ⟨s93, _, _, _, r93.symm, Go.Proofs.Tryz.func93, k93 u, n93⟩
noncomputable def T94c1 (x0_1 : GVal) (h : GHeap) (call : CallF) : SRes :=
bnd (nilChkF x0_1) fun t5_7 =>
bnd (fieldAF 3 t5_7) fun t6_8 =>
bnd (loadF h 1 false t6_8) fun t7_9 =>
bnd (geqF t7_9 (.int .i64 (.ofNat 24))) fun t8_10 =>
sIf t8_10 (
bnd2 (call 28 [x0_1, (.int .i64 (.ofNat 21))] h) fun _ h_12 =>
some (SOut.normal [] h_12)) (
some (SOut.normal [] h))
noncomputable def T94c2 (x0_1 : GVal) (h_26 : GHeap) : SRes :=
bnd (nilChkF x0_1) fun t26_27 =>
bnd (fieldAF 3 t26_27) fun t27_28 =>
bnd (loadF h_26 1 false t27_28) fun t28_29 =>
bnd (gBin .sub t28_29 (.int .i64 (.ofNat 1))) fun t29_30 =>
bnd (nilChkF x0_1) fun t30_31 =>
bnd (fieldAF 3 t30_31) fun t31_32 =>
bnd2 (storeF h_26 1 t31_32 t29_30) fun _ h_34 =>
some (SOut.ret (.tuple []) h_34)
noncomputable def T94c3 (t17_17 : GVal) (h_6 : GHeap) (x0_1 : GVal) (call : CallF) (x1_3 : GVal) : SRes :=
bnd (fieldAF 3 t17_17) fun t18_18 =>
bnd (loadF h_6 1 false t18_18) fun t19_19 =>
bnd (catF t19_19 (.int .i64 (.ofNat 1))) fun t20_20 =>
bnd (nilChkF x0_1) fun t21_21 =>
bnd (fieldAF 3 t21_21) fun t22_22 =>
bnd2 (storeF h_6 1 t22_22 t20_20) fun _ h_24 =>
bnd2 (callV call x1_3 [] h_24) fun _ h_26 =>
T94c2 x0_1 h_26
noncomputable def T94c4 (x0_1 : GVal) (h_6 : GHeap) (call : CallF) (x1_3 : GVal) : SRes :=
bnd (nilChkF x0_1) fun t12_13 =>
bnd (fieldAF 5 t12_13) fun t13_14 =>
bnd (loadF h_6 1 false t13_14) fun t14_15 =>
bnd (neqF t14_15 (.int .i64 (.ofNat 0))) fun t15_16 =>
sIf t15_16 (
some (SOut.ret (.tuple []) h_6)) (
bnd (nilChkF x0_1) fun t17_17 =>
T94c3 t17_17 h_6 x0_1 call x1_3)
/--   ratline parse.parser .within -/
noncomputable def T94 : TFun := fun _ call _ args h => sEnd (
uncons args fun x0_1 vs_2 =>
uncons vs_2 fun x1_3 vs_4 =>
unnil vs_4 (sJoin (T94c1 x0_1 h call) fun vs_5 h_6 =>
unnil vs_5 (T94c4 x0_1 h_6 call x1_3)))
theorem r94 : sRun s94 = T94 := by kernel_rfl
theorem e94 (u : Nat → Value → Prop) : TOK Go.Proofs.Tryz.prog (cfg u [] []) 94 T94 := .inr ⟨s94, _, _, _, r94.symm, Go.Proofs.Tryz.func94, k94 u, n94⟩
noncomputable def T95c1 (t7_10 : GVal) (h : GHeap) (t6_9 : GVal) (x0_1 : GVal) (call : CallF) (x1_3 : GVal) : SRes :=
bnd (fieldAF 1 t7_10) fun t8_11 =>
bnd2 (storeF h 1 t8_11 t6_9) fun _ h_13 =>
bnd (loadF h_13 1 false x0_1) fun t9_14 =>
bnd2 (call 27 [t9_14, (.int .i64 (.ofNat 6))] h_13) fun t10_15 h_16 =>
bnd (buildSlF (.agg [(.int .i64 (.ofNat 0)), (.int .i64 (.ofNat 0)), (.str []), (.int .i64 (.ofNat 0)), .nils]) 5 1 [(0, t10_15)]) fun t11_17 =>
bnd (fieldAF 4 x1_3) fun t12_18 =>
bnd2 (storeF h_16 1 t12_18 t11_17) fun _ h_20 =>
some (SOut.ret (.tuple []) h_20)
/--   ratline parse.parser .unary$1 -/
noncomputable def T95 : TFun := fun _ call _ args h => sEnd (
uncons args fun x0_1 vs_2 =>
uncons vs_2 fun x1_3 vs_4 =>
unnil vs_4 (bnd (loadF h 1 false x0_1) fun t2_5 =>
bnd (nilChkF t2_5) fun t3_6 =>
bnd (fieldAF 1 t3_6) fun t4_7 =>
bnd (loadF h 1 false t4_7) fun t5_8 =>
bnd (catF t5_8 (.int .i64 (.ofNat 1))) fun t6_9 =>
bnd (nilChkF t2_5) fun t7_10 =>
T95c1 t7_10 h t6_9 x0_1 call x1_3))
theorem r95 : sRun s95 = T95 := by kernel_rfl
theorem e95 (u : Nat → Value → Prop) : TOK Go.Proofs.Tryz.prog (cfg u [] []) 95 T95 := .inr ⟨s95, _, _, _, r95.symm, Go.Proofs.Tryz.func95, k95 u, n95⟩
noncomputable def T96c1 (t15_15 : GVal) (h_8 : GHeap) (t13_14 : GVal) (t3_5 : GVal) : SRes :=
bnd (fieldAF 1 t15_15) fun t16_16 =>
bnd (loadF h_8 1 false t16_16) fun t17_17 =>
bnd (ixSF 4 t13_14 t17_17) fun t18_18 =>
bnd (fieldAF 2 t18_18) fun t19_19 =>
bnd (loadF h_8 1 false t19_19) fun t20_20 =>
bnd (buildF [(.int .i64 (.ofNat 0)), (.int .i64 (.ofNat 0)), (.str []), (.int .i64 (.ofNat 0)), .nils] [(0, 1, (.int .i64 (.ofNat 15))), (3, 1, t20_20)]) fun t21_21 =>
bnd2 (storeF h_8 5 t3_5 t21_21) fun _ h_23 =>
some (SOut.normal [] h_23)
noncomputable def T96c2 (t29_28 : GVal) (h_8 : GHeap) (t27_27 : GVal) (t3_5 : GVal) : SRes :=
bnd (fieldAF 1 t29_28) fun t30_29 =>
bnd (loadF h_8 1 false t30_29) fun t31_30 =>
bnd (ixSF 4 t27_27 t31_30) fun t32_31 =>
bnd (fieldAF 2 t32_31) fun t33_32 =>
bnd (loadF h_8 1 false t33_32) fun t34_33 =>
bnd (buildF [(.int .i64 (.ofNat 0)), (.int .i64 (.ofNat 0)), (.str []), (.int .i64 (.ofNat 0)), .nils] [(0, 1, (.int .i64 (.ofNat 16))), (3, 1, t34_33)]) fun t35_34 =>
bnd2 (storeF h_8 5 t3_5 t35_34) fun _ h_36 =>
some (SOut.normal [] h_36)
noncomputable def T96c3 (t43_41 : GVal) (h_8 : GHeap) (t41_40 : GVal) (t3_5 : GVal) : SRes :=
bnd (fieldAF 1 t43_41) fun t44_42 =>
bnd (loadF h_8 1 false t44_42) fun t45_43 =>
bnd (ixSF 4 t41_40 t45_43) fun t46_44 =>
bnd (fieldAF 1 t46_44) fun t47_45 =>
bnd (loadF h_8 1 false t47_45) fun t48_46 =>
bnd (buildF [(.int .i64 (.ofNat 0)), (.int .i64 (.ofNat 0)), (.str []), (.int .i64 (.ofNat 0)), .nils] [(0, 1, (.int .i64 (.ofNat 17))), (2, 1, t48_46)]) fun t49_47 =>
bnd2 (storeF h_8 5 t3_5 t49_47) fun _ h_49 =>
some (SOut.normal [] h_49)
noncomputable def T96c4 (t51_50 : GVal) (call : CallF) (x0_1 : GVal) (h_8 : GHeap) (t2_3 : GVal) : SRes :=
sIf t51_50 (
bnd2 (call 124 [x0_1] h_8) fun t53_51 h_52 =>
bnd2 (storeF h_52 5 t2_3 t53_51) fun _ h_54 =>
bnd (loadF h_54 5 true t2_3) fun r_55 =>
some (SOut.ret r_55 h_54)) (
bnd2 (call 125 [x0_1] h_8) fun t7_56 h_57 =>
bnd2 (storeF h_57 5 t2_3 t7_56) fun _ h_59 =>
bnd (loadF h_59 5 true t2_3) fun r_60 =>
some (SOut.ret r_60 h_59))
noncomputable def T96c5 (t37_37 : GVal) (x0_1 : GVal) (h_8 : GHeap) (t3_5 : GVal) (t5_7 : GVal) (call : CallF) (t2_3 : GVal) : SRes :=
sIf t37_37 (
bnd (nilChkF x0_1) fun t39_38 =>
bnd (fieldAF 0 t39_38) fun t40_39 =>
bnd (loadF h_8 1 false t40_39) fun t41_40 =>
bnd (nilChkF x0_1) fun t43_41 =>
T96c3 t43_41 h_8 t41_40 t3_5) (
bnd (eqlF t5_7 (.int .i64 (.ofNat 1))) fun t51_50 =>
T96c4 t51_50 call x0_1 h_8 t2_3)
noncomputable def T96c6 (t23_24 : GVal) (x0_1 : GVal) (h_8 : GHeap) (t3_5 : GVal) (t5_7 : GVal) (call : CallF) (t2_3 : GVal) : SRes :=
sIf t23_24 (
bnd (nilChkF x0_1) fun t25_25 =>
bnd (fieldAF 0 t25_25) fun t26_26 =>
bnd (loadF h_8 1 false t26_26) fun t27_27 =>
bnd (nilChkF x0_1) fun t29_28 =>
T96c2 t29_28 h_8 t27_27 t3_5) (
bnd (eqlF t5_7 (.int .i64 (.ofNat 5))) fun t37_37 =>
T96c5 t37_37 x0_1 h_8 t3_5 t5_7 call t2_3)
noncomputable def T96c7 (t9_11 : GVal) (x0_1 : GVal) (h_8 : GHeap) (t3_5 : GVal) (t5_7 : GVal) (call : CallF) (t2_3 : GVal) : SRes :=
sIf t9_11 (
bnd (nilChkF x0_1) fun t11_12 =>
bnd (fieldAF 0 t11_12) fun t12_13 =>
bnd (loadF h_8 1 false t12_13) fun t13_14 =>
bnd (nilChkF x0_1) fun t15_15 =>
T96c1 t15_15 h_8 t13_14 t3_5) (
bnd (eqlF t5_7 (.int .i64 (.ofNat 4))) fun t23_24 =>
T96c6 t23_24 x0_1 h_8 t3_5 t5_7 call t2_3)
noncomputable def T96c8 (t57_63 : GVal) (x0_1 : GVal) (h_10 : GHeap) (t3_5 : GVal) (t2_3 : GVal) : SRes :=
bnd (catF t57_63 (.int .i64 (.ofNat 1))) fun t58_64 =>
bnd (nilChkF x0_1) fun t59_65 =>
bnd (fieldAF 1 t59_65) fun t60_66 =>
bnd2 (storeF h_10 1 t60_66 t58_64) fun _ h_68 =>
bnd (loadF h_68 5 true t3_5) fun t61_69 =>
bnd2 (storeF h_68 5 t2_3 t61_69) fun _ h_71 =>
bnd (loadF h_71 5 true t2_3) fun r_72 =>
some (SOut.ret r_72 h_71)
noncomputable def T96c9 (h_4 : GHeap) (call : CallF) (x0_1 : GVal) (t2_3 : GVal) : SRes :=
bnd2 (allocV [(.int .i64 (.ofNat 0)), (.int .i64 (.ofNat 0)), (.str []), (.int .i64 (.ofNat 0)), .nils] h_4) fun t3_5 h_6 =>
bnd2 (call 100 [x0_1] h_6) fun t5_7 h_8 =>
sBlk 0 (bnd (eqlF t5_7 (.int .i64 (.ofNat 3))) fun t9_11 =>
T96c7 t9_11 x0_1 h_8 t3_5 t5_7 call t2_3) fun vs_9 h_10 =>
unnil vs_9 (bnd (nilChkF x0_1) fun t55_61 =>
bnd (fieldAF 1 t55_61) fun t56_62 =>
bnd (loadF h_10 1 false t56_62) fun t57_63 =>
T96c8 t57_63 x0_1 h_10 t3_5 t2_3)
/--   ratline parse.parser .plain -/
noncomputable def T96 : TFun := fun _ call _ args h => sEnd (
uncons args fun x0_1 vs_2 =>
unnil vs_2 (bnd2 (allocV [(.int .i64 (.ofNat 0)), (.int .i64 (.ofNat 0)), (.str []), (.int .i64 (.ofNat 0)), .nils] h) fun t2_3 h_4 =>
T96c9 h_4 call x0_1 t2_3))
theorem r96 : sRun s96 = T96 := by kernel_rfl
theorem e96 (u : Nat → Value → Prop) : TOK Go.Proofs.Tryz.prog (cfg u [] []) 96 T96 := .inr ⟨s96, _, _, _, r96.symm, Go.Proofs.Tryz.func96, k96 u, n96⟩
noncomputable def T97c1 (call : CallF) (t10_15 : GVal) (h_13 : GHeap) (t9_14 : GVal) (x1_3 : GVal) (x0_1 : GVal) : SRes :=
bnd2 (call 27 [t10_15, (.int .i64 (.ofNat 1))] h_13) fun t11_16 h_17 =>
bnd (buildSlF (.agg [(.int .i64 (.ofNat 0)), (.int .i64 (.ofNat 0)), (.str []), (.int .i64 (.ofNat 0)), .nils]) 5 2 [(0, t9_14), (1, t11_16)]) fun t12_18 =>
bnd (buildF [(.int .i64 (.ofNat 0)), (.int .i64 (.ofNat 0)), (.str []), (.int .i64 (.ofNat 0)), .nils] [(0, 1, (.int .i64 (.ofNat 11))), (1, 1, (.int .i64 (.ofNat 12))), (4, 1, t12_18)]) fun t13_19 =>
bnd2 (storeF h_17 5 x1_3 t13_19) fun _ h_21 =>
guardS (((chkV (loadV h_17 5 true x1_3) t9_14) && true) && true) (
bnd (loadF h_21 1 false x0_1) fun t14_22 =>
bnd2 (call 70 [t14_22, (.str [93])] h_21) fun _ h_24 =>
some (SOut.ret (.tuple []) h_24))
noncomputable def T97c2 (h : GHeap) (t4_7 : GVal) (t2_5 : GVal) (x1_3 : GVal) (x0_1 : GVal) (call : CallF) : SRes :=
bnd (loadF h 1 false t4_7) fun t5_8 =>
bnd (catF t5_8 (.int .i64 (.ofNat 1))) fun t6_9 =>
bnd (nilChkF t2_5) fun t7_10 =>
bnd (fieldAF 1 t7_10) fun t8_11 =>
bnd2 (storeF h 1 t8_11 t6_9) fun _ h_13 =>
bnd (loadF h_13 5 true x1_3) fun t9_14 =>
bnd (loadF h_13 1 false x0_1) fun t10_15 =>
T97c1 call t10_15 h_13 t9_14 x1_3 x0_1
/--   ratline parse.parser .index$1 -/
noncomputable def T97 : TFun := fun _ call _ args h => sEnd (
uncons args fun x0_1 vs_2 =>
uncons vs_2 fun x1_3 vs_4 =>
unnil vs_4 (bnd (loadF h 1 false x0_1) fun t2_5 =>
bnd (nilChkF t2_5) fun t3_6 =>
bnd (fieldAF 1 t3_6) fun t4_7 =>
T97c2 h t4_7 t2_5 x1_3 x0_1 call))
theorem r97 : sRun s97 = T97 := by kernel_rfl
theorem e97 (u : Nat → Value → Prop) : TOK Go.Proofs.Tryz.prog (cfg u [] []) 97 T97 := .inr ⟨s97, _, _, _, r97.symm, Go.Proofs.Tryz.func97, k97 u, n97⟩
noncomputable def T100c1 (t10_9 : GVal) (h : GHeap) (x0_1 : GVal) : SRes :=
bnd (fieldAF 1 t10_9) fun t11_10 =>
bnd (loadF h 1 false t11_10) fun t12_11 =>
bnd (nilChkF x0_1) fun t14_12 =>
bnd (fieldAF 0 t14_12) fun t15_13 =>
bnd (loadF h 1 false t15_13) fun t16_14 =>
bnd (lenF false t16_14) fun t17_15 =>
bnd (geqF t12_11 t17_15) fun t18_16 =>
some (SOut.normal [t18_16] h)
noncomputable def T100c2 (h_8 : GHeap) (t22_21 : GVal) (x0_1 : GVal) : SRes :=
bnd (loadF h_8 1 false t22_21) fun t23_22 =>
bnd (nilChkF x0_1) fun t25_23 =>
bnd (fieldAF 1 t25_23) fun t26_24 =>
bnd (loadF h_8 1 false t26_24) fun t27_25 =>
bnd (ixSF 4 t23_22 t27_25) fun t28_26 =>
bnd (fieldAF 0 t28_26) fun t29_27 =>
bnd (loadF h_8 1 false t29_27) fun t30_28 =>
some (SOut.ret t30_28 h_8)
noncomputable def T100c3 (t7_6 : GVal) (x0_1 : GVal) (h : GHeap) : SRes :=
sJoin (gIf t7_6 false (
bnd (nilChkF x0_1) fun t10_9 =>
T100c1 t10_9 h x0_1) (some (SOut.normal [gundef] h))) fun vs_7 h_8 =>
uncons vs_7 fun x18_17 vs_18 =>
unnil vs_18 (bnd (pickF t7_6 (.bool true) x18_17) fun t19_19 =>
sIf t19_19 (
some (SOut.ret (.int .i64 (.ofNat 0)) h_8)) (
bnd (nilChkF x0_1) fun t21_20 =>
bnd (fieldAF 0 t21_20) fun t22_21 =>
T100c2 h_8 t22_21 x0_1))
/--   ratline parse.parser .kind -/
noncomputable def T100 : TFun := fun _ _ _ args h => sEnd (
uncons args fun x0_1 vs_2 =>
unnil vs_2 (bnd (nilChkF x0_1) fun t4_3 =>
bnd (fieldAF 5 t4_3) fun t5_4 =>
bnd (loadF h 1 false t5_4) fun t6_5 =>
bnd (neqF t6_5 (.int .i64 (.ofNat 0))) fun t7_6 =>
T100c3 t7_6 x0_1 h))
theorem r100 : sRun s100 = T100 := by kernel_rfl
theorem e100 (u : Nat → Value → Prop) : TOK Go.Proofs.Tryz.prog (cfg u [] []) 100 T100 := .inr ⟨s100, _, _, _, r100.symm, Go.Proofs.Tryz.func100, k100 u, n100⟩
noncomputable def T101c1 (t25_41 : GVal) (t23_39 : GVal) (h_42 : GHeap) (t22_37 : GVal) (x1_3 : GVal) (h_38 : GHeap) (t19_34 : GVal) (t20_35 : GVal) : SRes :=
bnd (ixSF 5 t25_41 t23_39) fun t26_43 =>
bnd2 (storeF h_42 5 t26_43 t22_37) fun _ h_45 =>
bnd (fieldAF 4 x1_3) fun t27_46 =>
bnd2 (storeF h_45 1 t27_46 t25_41) fun _ h_48 =>
guardS (((chkV (loadV h_38 1 false t19_34) t20_35) && true) && swV (ptrK t26_43) (ptrK t27_46)) (
bnd2 (gFreeze h_48 5 true t25_41) fun t25_49 h_50 =>
guardS (sameCell h_48 t27_46 t25_41) (bnd (gStore h_50 1 t27_46 t25_49) fun h_51 =>
some (SOut.normal [] h_51)))
noncomputable def T101c2 (x1_3 : GVal) (h_24 : GHeap) (x0_1 : GVal) (call : CallF) : SRes :=
bnd (fieldAF 4 x1_3) fun t19_34 =>
bnd (loadF h_24 1 false t19_34) fun t20_35 =>
bnd (loadF h_24 1 false x0_1) fun t21_36 =>
bnd2 (call 102 [t21_36] h_24) fun t22_37 h_38 =>
bnd (lenF false t20_35) fun t23_39 =>
bnd (buildSlF (.agg [(.int .i64 (.ofNat 0)), (.int .i64 (.ofNat 0)), (.str []), (.int .i64 (.ofNat 0)), .nils]) 5 1 [(0, (.agg [(.int .i64 (.ofNat 0)), (.int .i64 (.ofNat 0)), (.str []), (.int .i64 (.ofNat 0)), .nils]))]) fun t24_40 =>
bnd2 (appendF h_38 5 64 true true t20_35 t24_40) fun t25_41 h_42 =>
T101c1 t25_41 t23_39 h_42 t22_37 x1_3 h_38 t19_34 t20_35
noncomputable def T101c3 (t13_22 : GVal) (h_17 : GHeap) (x0_1 : GVal) (call : CallF) (x1_3 : GVal) : SRes :=
sJoin (gIf t13_22 true (
bnd (loadF h_17 1 false x0_1) fun t15_25 =>
bnd2 (call 71 [t15_25, (.str [125])] h_17) fun t16_26 h_27 =>
bnd (unF .not t16_26) fun t17_28 =>
some (SOut.normal [t17_28] h_27)) (some (SOut.normal [gundef] h_17))) fun vs_23 h_24 =>
uncons vs_23 fun x17_29 vs_30 =>
unnil vs_30 (bnd (pickF t13_22 x17_29 (.bool false)) fun t18_31 =>
sIf t18_31 (
sBlk 1 (T101c2 x1_3 h_24 x0_1 call) fun vs_32 h_33 =>
unnil vs_32 (some (SOut.normal [] h_33))) (
some (SOut.exit 0 [] h_24)))
noncomputable def T101c4 (x0_1 : GVal) (call : CallF) (x1_3 : GVal) (n : Nat) (h_13 : GHeap) : SRes :=
sBlk 0 (sLoop (fun vs_16 h_17 =>
unnil vs_16 (bnd (loadF h_17 1 false x0_1) fun t9_18 =>
bnd (nilChkF t9_18) fun t10_19 =>
bnd (fieldAF 5 t10_19) fun t11_20 =>
bnd (loadF h_17 1 false t11_20) fun t12_21 =>
bnd (eqlF t12_21 (.int .i64 (.ofNat 0))) fun t13_22 =>
T101c3 t13_22 h_17 x0_1 call x1_3)) n [] h_13) fun vs_14 h_15 =>
unnil vs_14 (some (SOut.ret (.tuple []) h_15))
noncomputable def T101c5 (t2_5 : GVal) (h : GHeap) (x0_1 : GVal) (call : CallF) (x1_3 : GVal) (n : Nat) : SRes :=
bnd (nilChkF t2_5) fun t3_6 =>
bnd (fieldAF 1 t3_6) fun t4_7 =>
bnd (loadF h 1 false t4_7) fun t5_8 =>
bnd (catF t5_8 (.int .i64 (.ofNat 1))) fun t6_9 =>
bnd (nilChkF t2_5) fun t7_10 =>
bnd (fieldAF 1 t7_10) fun t8_11 =>
bnd2 (storeF h 1 t8_11 t6_9) fun _ h_13 =>
T101c4 x0_1 call x1_3 n h_13
/--   ratline parse.parser .block$1 -/
noncomputable def T101 : TFun := fun _ call n args h => sEnd (
uncons args fun x0_1 vs_2 =>
uncons vs_2 fun x1_3 vs_4 =>
unnil vs_4 (bnd (loadF h 1 false x0_1) fun t2_5 =>
T101c5 t2_5 h x0_1 call x1_3 n))
theorem r101 : sRun s101 = T101 := by kernel_rfl
theorem e101 (u : Nat → Value → Prop) : TOK Go.Proofs.Tryz.prog (cfg u [] []) 101 T101 := .inr ⟨s101, _, _, _, r101.symm, Go.Proofs.Tryz.func101, k101 u, n101⟩
noncomputable def T102c1 (t10_14 : GVal) (call : CallF) (x0_1 : GVal) (h_15 : GHeap) (t2_3 : GVal) : SRes :=
sIf t10_14 (
bnd2 (call 27 [x0_1, (.int .i64 (.ofNat 1))] h_15) fun t12_16 h_17 =>
bnd2 (call 72 [x0_1] h_17) fun t14_18 h_19 =>
bnd (buildSlF (.agg [(.int .i64 (.ofNat 0)), (.int .i64 (.ofNat 0)), (.str []), (.int .i64 (.ofNat 0)), .nils]) 5 2 [(0, t12_16), (1, t14_18)]) fun t15_20 =>
bnd (buildF [(.int .i64 (.ofNat 0)), (.int .i64 (.ofNat 0)), (.str []), (.int .i64 (.ofNat 0)), .nils] [(0, 1, (.int .i64 (.ofNat 4))), (4, 1, t15_20)]) fun t16_21 =>
bnd2 (storeF h_19 5 t2_3 t16_21) fun _ h_23 =>
bnd (loadF h_23 5 true t2_3) fun r_24 =>
some (SOut.ret r_24 h_23)) (
some (SOut.normal [] h_15))
noncomputable def T102c2 (call : CallF) (x0_1 : GVal) (h_4 : GHeap) (t2_3 : GVal) : SRes :=
bnd2 (call 68 [x0_1, (.str [105, 102])] h_4) fun t5_7 h_8 =>
sIf t5_7 (
bnd2 (call 127 [x0_1] h_8) fun t7_9 h_10 =>
bnd2 (storeF h_10 5 t2_3 t7_9) fun _ h_12 =>
bnd (loadF h_12 5 true t2_3) fun r_13 =>
some (SOut.ret r_13 h_12)) (
bnd2 (call 68 [x0_1, (.str [119, 104, 105, 108, 101])] h_8) fun t10_14 h_15 =>
T102c1 t10_14 call x0_1 h_15 t2_3)
/--   ratline parse.parser .statement -/
noncomputable def T102 : TFun := fun _ call _ args h => sEnd (
uncons args fun x0_1 vs_2 =>
unnil vs_2 (bnd2 (allocV [(.int .i64 (.ofNat 0)), (.int .i64 (.ofNat 0)), (.str []), (.int .i64 (.ofNat 0)), .nils] h) fun t2_3 h_4 =>
sBlk 0 (T102c2 call x0_1 h_4 t2_3) fun vs_5 h_6 =>
unnil vs_5 (bnd2 (call 128 [x0_1] h_6) fun t18_25 h_26 =>
bnd2 (storeF h_26 5 t2_3 t18_25) fun _ h_28 =>
bnd (loadF h_28 5 true t2_3) fun r_29 =>
some (SOut.ret r_29 h_28))))
theorem r102 : sRun s102 = T102 := by kernel_rfl
theorem e102 (u : Nat → Value → Prop) : TOK Go.Proofs.Tryz.prog (cfg u [] []) 102 T102 := .inr ⟨s102, _, _, _, r102.symm, Go.Proofs.Tryz.func102, k102 u, n102⟩
noncomputable def T103c1 (t38_49 : GVal) (t4_31 : GVal) (h_40 : GHeap) (call : CallF) (x0_1 : GVal) (t3_5 : GVal) : SRes :=
sIf t38_49 (
bnd (fieldAF 4 t4_31) fun t40_50 =>
bnd (loadF h_40 1 false t40_50) fun t41_51 =>
bnd (ixSF 5 t41_51 (.int .i64 (.ofNat 0))) fun t42_52 =>
bnd (loadF h_40 5 true t42_52) fun t43_53 =>
bnd2 (call 103 [x0_1, t43_53] h_40) fun _ h_55 =>
some (SOut.ret (.tuple []) h_55)) (
bnd (fieldAF 4 t3_5) fun t46_56 =>
bnd (loadF h_40 1 false t46_56) fun t47_57 =>
bnd (ixSF 5 t47_57 (.int .i64 (.ofNat 2))) fun t48_58 =>
bnd (loadF h_40 5 true t48_58) fun t49_59 =>
bnd2 (call 34 [x0_1, t49_59] h_40) fun _ h_61 =>
some (SOut.ret (.tuple []) h_61))
noncomputable def T103c2 (t30_38 : GVal) (t4_31 : GVal) (h_34 : GHeap) (call : CallF) (x0_1 : GVal) (t3_5 : GVal) : SRes :=
sJoin (gIf t30_38 true (
bnd (fieldAF 4 t4_31) fun t32_41 =>
bnd (loadF h_34 1 false t32_41) fun t33_42 =>
bnd (ixSF 5 t33_42 (.int .i64 (.ofNat 0))) fun t34_43 =>
bnd (fieldAF 0 t34_43) fun t35_44 =>
bnd (loadF h_34 1 false t35_44) fun t36_45 =>
bnd (eqlF t36_45 (.int .i64 (.ofNat 3))) fun t37_46 =>
some (SOut.normal [t37_46] h_34)) (some (SOut.normal [gundef] h_34))) fun vs_39 h_40 =>
uncons vs_39 fun x37_47 vs_48 =>
unnil vs_48 (bnd (pickF t30_38 x37_47 (.bool false)) fun t38_49 =>
T103c1 t38_49 t4_31 h_40 call x0_1 t3_5)
noncomputable def T103c3 (h_26 : GHeap) (t25_29 : GVal) (call : CallF) (x0_1 : GVal) (t3_5 : GVal) : SRes :=
bnd (loadF h_26 5 true t25_29) fun t26_30 =>
bnd2 (allocV [(.int .i64 (.ofNat 0)), (.int .i64 (.ofNat 0)), (.str []), (.int .i64 (.ofNat 0)), .nils] h_26) fun t4_31 h_32 =>
bnd2 (storeF h_32 5 t4_31 t26_30) fun _ h_34 =>
bnd (fieldAF 4 t4_31) fun t27_35 =>
bnd (loadF h_34 1 false t27_35) fun t28_36 =>
bnd (lenF false t28_36) fun t29_37 =>
bnd (eqlF t29_37 (.int .i64 (.ofNat 1))) fun t30_38 =>
T103c2 t30_38 t4_31 h_34 call x0_1 t3_5
noncomputable def T103c4 (t19_23 : GVal) (h_19 : GHeap) (call : CallF) (x0_1 : GVal) (t3_5 : GVal) : SRes :=
sIf t19_23 (
some (SOut.ret (.tuple []) h_19)) (
bnd (buildSlF (.str []) 1 1 [(0, (.str [101, 108, 115, 101]))]) fun t21_24 =>
bnd2 (call 33 [x0_1, t21_24] h_19) fun _ h_26 =>
bnd (fieldAF 4 t3_5) fun t23_27 =>
bnd (loadF h_26 1 false t23_27) fun t24_28 =>
bnd (ixSF 5 t24_28 (.int .i64 (.ofNat 2))) fun t25_29 =>
T103c3 h_26 t25_29 call x0_1 t3_5)
noncomputable def T103c5 (h_14 : GHeap) (t3_5 : GVal) (call : CallF) (x0_1 : GVal) : SRes :=
bnd (loadF h_14 5 true t3_5) fun t13_15 =>
bnd2 (call 78 [t13_15, (.int .i64 (.ofNat 1))] h_14) fun t14_16 h_17 =>
bnd2 (call 34 [x0_1, t14_16] h_17) fun _ h_19 =>
bnd (fieldAF 4 t3_5) fun t16_20 =>
bnd (loadF h_19 1 false t16_20) fun t17_21 =>
bnd (lenF false t17_21) fun t18_22 =>
bnd (lssF t18_22 (.int .i64 (.ofNat 3))) fun t19_23 =>
T103c4 t19_23 h_19 call x0_1 t3_5
/--   ratline parse.printer .iff -/
noncomputable def T103 : TFun := fun _ call _ args h => sEnd (
uncons args fun x0_1 vs_2 =>
uncons vs_2 fun x1_3 vs_4 =>
unnil vs_4 (bnd2 (boxF h 5 x1_3) fun t3_5 h_6 =>
bnd (buildSlF (.str []) 1 1 [(0, (.str [105, 102]))]) fun t6_7 =>
bnd2 (call 33 [x0_1, t6_7] h_6) fun _ h_9 =>
bnd (loadF h_9 5 true t3_5) fun t9_10 =>
bnd2 (call 78 [t9_10, (.int .i64 (.ofNat 0))] h_9) fun t10_11 h_12 =>
bnd2 (call 21 [x0_1, t10_11, (.int .i64 (.ofNat 1))] h_12) fun _ h_14 =>
T103c5 h_14 t3_5 call x0_1))
theorem r103 : sRun s103 = T103 := by kernel_rfl
theorem e103 (u : Nat → Value → Prop) : TOK Go.Proofs.Tryz.prog (cfg u [] []) 103 T103 := .inr ⟨s103, _, _, _, r103.symm, Go.Proofs.Tryz.func103, k103 u, n103⟩
noncomputable def T106c1 (h : GHeap) : SRes :=
bnd (buildF [(.str []), (.int .i64 (.ofNat 0))] [(0, 1, (.str [61, 61])), (1, 1, (.int .i64 (.ofNat 6)))]) fun t6_6 =>
bnd (buildF [(.str []), (.int .i64 (.ofNat 0))] [(0, 1, (.str [33, 61])), (1, 1, (.int .i64 (.ofNat 7)))]) fun t7_7 =>
bnd (buildF [(.str []), (.int .i64 (.ofNat 0))] [(0, 1, (.str [60])), (1, 1, (.int .i64 (.ofNat 8)))]) fun t8_8 =>
bnd (buildF [(.str []), (.int .i64 (.ofNat 0))] [(0, 1, (.str [60, 61])), (1, 1, (.int .i64 (.ofNat 9)))]) fun t9_9 =>
bnd (buildF [(.str []), (.int .i64 (.ofNat 0))] [(0, 1, (.str [62])), (1, 1, (.int .i64 (.ofNat 10)))]) fun t10_10 =>
bnd (buildF [(.str []), (.int .i64 (.ofNat 0))] [(0, 1, (.str [62, 61])), (1, 1, (.int .i64 (.ofNat 11)))]) fun t11_11 =>
bnd (buildSlF (.agg [(.str []), (.int .i64 (.ofNat 0))]) 2 6 [(0, t6_6), (1, t7_7), (2, t8_8), (3, t9_9), (4, t10_10), (5, t11_11)]) fun t12_12 =>
some (SOut.ret t12_12 h)
noncomputable def T106c2 (x0_1 : GVal) (h : GHeap) : SRes :=
bnd (eqlF x0_1 (.int .i64 (.ofNat 5))) fun t19_17 =>
sIf t19_17 (
bnd (buildF [(.str []), (.int .i64 (.ofNat 0))] [(0, 1, (.str [42])), (1, 1, (.int .i64 (.ofNat 3)))]) fun t20_18 =>
bnd (buildF [(.str []), (.int .i64 (.ofNat 0))] [(0, 1, (.str [47])), (1, 1, (.int .i64 (.ofNat 4)))]) fun t21_19 =>
bnd (buildF [(.str []), (.int .i64 (.ofNat 0))] [(0, 1, (.str [37])), (1, 1, (.int .i64 (.ofNat 5)))]) fun t22_20 =>
bnd (buildSlF (.agg [(.str []), (.int .i64 (.ofNat 0))]) 2 3 [(0, t20_18), (1, t21_19), (2, t22_20)]) fun t23_21 =>
some (SOut.ret t23_21 h)) (
some (SOut.normal [] h))
noncomputable def T106c3 (t5_5 : GVal) (h : GHeap) (x0_1 : GVal) : SRes :=
sIf t5_5 (
T106c1 h) (
bnd (eqlF x0_1 (.int .i64 (.ofNat 4))) fun t14_13 =>
sIf t14_13 (
bnd (buildF [(.str []), (.int .i64 (.ofNat 0))] [(0, 1, (.str [43])), (1, 1, (.int .i64 (.ofNat 1)))]) fun t15_14 =>
bnd (buildF [(.str []), (.int .i64 (.ofNat 0))] [(0, 1, (.str [45])), (1, 1, (.int .i64 (.ofNat 2)))]) fun t16_15 =>
bnd (buildSlF (.agg [(.str []), (.int .i64 (.ofNat 0))]) 2 2 [(0, t15_14), (1, t16_15)]) fun t17_16 =>
some (SOut.ret t17_16 h)) (
T106c2 x0_1 h))
/-- ratline parse.binaries -/
noncomputable def T106 : TFun := fun _ _ _ args h => sEnd (
uncons args fun x0_1 vs_2 =>
unnil vs_2 (sBlk 0 (bnd (eqlF x0_1 (.int .i64 (.ofNat 3))) fun t5_5 =>
T106c3 t5_5 h x0_1) fun vs_3 h_4 =>
unnil vs_3 (some (SOut.ret .nils h_4))))
theorem r106 : sRun s106 = T106 := by kernel_rfl
theorem e106 (u : Nat → Value → Prop) : TOK Go.Proofs.Tryz.prog (cfg u [] []) 106 T106 := .inr ⟨s106, _, _, _, r106.symm, Go.Proofs.Tryz.func106, k106 u, n106⟩
noncomputable def T107c1 (x0_1 : GVal) (t21_17 : GVal) (h_16 : GHeap) (call : CallF) : SRes :=
sJoin (bnd (lssF x0_1 (.int .i64 (.ofNat 0))) fun t23_20 =>
sIf t23_20 (
bnd (unF .neg t21_17) fun t25_21 =>
some (SOut.normal [t25_21] h_16)) (
some (SOut.normal [t21_17] h_16))) fun vs_18 h_19 =>
uncons vs_18 fun x6_22 vs_23 =>
unnil vs_23 (bnd2 (call 130 [x6_22] h_19) fun _ _ =>
none)
noncomputable def T107c2 (vs_7 : List GVal) (t13_6 : GVal) (call : CallF) (x0_1 : GVal) (h_8 : GHeap) : SRes :=
uncons vs_7 fun x16_10 vs_11 =>
unnil vs_11 (bnd (pickF t13_6 x16_10 (.bool false)) fun t17_12 =>
sIf t17_12 (
bnd2 (call 129 [x0_1] h_8) fun t19_13 h_14 =>
some (SOut.ret t19_13 h_14)) (
bnd2 (allocV [(.int .u8 (.ofNat 0)), (.int .u8 (.ofNat 0)), (.int .u8 (.ofNat 0)), (.int .u8 (.ofNat 0)), (.int .u8 (.ofNat 0)), (.int .u8 (.ofNat 0)), (.int .u8 (.ofNat 0)), (.int .u8 (.ofNat 0)), (.int .u8 (.ofNat 0)), (.int .u8 (.ofNat 0)), (.int .u8 (.ofNat 0)), (.int .u8 (.ofNat 0)), (.int .u8 (.ofNat 0)), (.int .u8 (.ofNat 0)), (.int .u8 (.ofNat 0)), (.int .u8 (.ofNat 0)), (.int .u8 (.ofNat 0)), (.int .u8 (.ofNat 0)), (.int .u8 (.ofNat 0)), (.int .u8 (.ofNat 0)), (.int .u8 (.ofNat 0)), (.int .u8 (.ofNat 0)), (.int .u8 (.ofNat 0)), (.int .u8 (.ofNat 0))] h_8) fun _ h_16 =>
bnd (gConv (.int .u64) x0_1) fun t21_17 =>
T107c1 x0_1 t21_17 h_16 call))
noncomputable def T107c3 (t11_5 : GVal) (x0_1 : GVal) (h : GHeap) (call : CallF) (x1_3 : GVal) : SRes :=
sIf t11_5 (
bnd (leqF (.int .i64 (.ofNat 0)) x0_1) fun t13_6 =>
sJoin (gIf t13_6 true (
bnd (lssF x0_1 (.int .i64 (.ofNat 100))) fun t16_9 =>
some (SOut.normal [t16_9] h)) (some (SOut.normal [gundef] h))) fun vs_7 h_8 =>
T107c2 vs_7 t13_6 call x0_1 h_8) (
bnd (gConv (.int .u64) x0_1) fun t46_26 =>
bnd (lssF x0_1 (.int .i64 (.ofNat 0))) fun t49_27 =>
bnd2 (call 132 [.nils, t46_26, x1_3, t49_27, (.bool false)] h) fun t50_28 h_29 =>
bnd (extrF 0 t50_28) fun _ =>
bnd (extrF 1 t50_28) fun t52_31 =>
some (SOut.ret t52_31 h_29))
/-- internal strconv.FormatInt -/
noncomputable def T107 : TFun := fun _ call _ args h => sEnd (
uncons args fun x0_1 vs_2 =>
uncons vs_2 fun x1_3 vs_4 =>
unnil vs_4 (bnd (eqlF x1_3 (.int .i64 (.ofNat 10))) fun t11_5 =>
T107c3 t11_5 x0_1 h call x1_3))
theorem r107 : sRun s107 = T107 := by kernel_rfl
theorem e107 (u : Nat → Value → Prop) : TOK Go.Proofs.Tryz.prog (cfg u [] []) 107 T107 := .inr ⟨s107, _, _, _, r107.symm, Go.Proofs.Tryz.func107, k107 u, n107⟩
noncomputable def T115c1 (t9_12 : GVal) (x0_1 : GVal) (x5_9 : GVal) (call : CallF) (x1_3 : GVal) (h_6 : GHeap) : SRes :=
sJoin (gIf t9_12 true (
bnd (ixStrF x0_1 x5_9) fun t14_15 =>
bnd2 (callV call x1_3 [t14_15] h_6) fun t15_16 h_17 =>
some (SOut.normal [t15_16] h_17)) (some (SOut.normal [gundef] h_6))) fun vs_13 h_14 =>
uncons vs_13 fun x15_18 vs_19 =>
unnil vs_19 (bnd (pickF t9_12 x15_18 (.bool false)) fun t16_20 =>
sIf t16_20 (
bnd (catF x5_9 (.int .i64 (.ofNat 1))) fun t18_21 =>
some (SOut.goto 0 [t18_21] h_14)) (
some (SOut.ret x5_9 h_14)))
noncomputable def T115c2 (t9_23 : GVal) (x0_1 : GVal) (call : CallF) (x1_3 : GVal) (h : GHeap) : SRes :=
sJoin (gIf t9_23 true (
bnd (ixStrF x0_1 (.int .i64 (.ofNat 0))) fun t14_26 =>
bnd2 (callV call x1_3 [t14_26] h) fun t15_27 h_28 =>
some (SOut.normal [t15_27] h_28)) (some (SOut.normal [gundef] h))) fun vs_24 h_25 =>
uncons vs_24 fun x15_29 vs_30 =>
unnil vs_30 (bnd (pickF t9_23 x15_29 (.bool false)) fun t16_31 =>
sIf t16_31 (
bnd (catF (.int .i64 (.ofNat 0)) (.int .i64 (.ofNat 1))) fun t18_32 =>
some (SOut.goto 0 [t18_32] h_25)) (
some (SOut.ret (.int .i64 (.ofNat 0)) h_25)))
noncomputable def T115c3 (x0_1 : GVal) (call : CallF) (x1_3 : GVal) (n : Nat) (h : GHeap) : SRes :=
sJoin (sJumps 0 (fun vs_5 h_6 =>
uncons vs_5 fun x5_9 vs_10 =>
unnil vs_10 (bnd (lenF true x0_1) fun t8_11 =>
bnd (lssF x5_9 t8_11) fun t9_12 =>
T115c1 t9_12 x0_1 x5_9 call x1_3 h_6)) n (bnd (lenF true x0_1) fun t8_22 =>
bnd (lssF (.int .i64 (.ofNat 0)) t8_22) fun t9_23 =>
T115c2 t9_23 x0_1 call x1_3 h)) fun vs_7 h_8 =>
uncons vs_7 fun x4_33 vs_34 =>
unnil vs_34 (some (SOut.ret x4_33 h_8))
/-- ratline lex.span -/
noncomputable def T115 : TFun := fun _ call n args h => sEnd (
uncons args fun x0_1 vs_2 =>
uncons vs_2 fun x1_3 vs_4 =>
unnil vs_4 (T115c3 x0_1 call x1_3 n h))
theorem r115 : sRun s115 = T115 := by kernel_rfl
theorem e115 (u : Nat → Value → Prop) : TOK Go.Proofs.Tryz.prog (cfg u [] []) 115 T115 := .inr ⟨s115, _, _, _, r115.symm, Go.Proofs.Tryz.func115, k115 u, n115⟩
noncomputable def T116c1 (vs_10 : List GVal) (t8_9 : GVal) (x0_1 : GVal) (h_11 : GHeap) : SRes :=
uncons vs_10 fun x11_13 vs_14 =>
unnil vs_14 (bnd (pickF t8_9 (.bool true) x11_13) fun t12_15 =>
sJoin (gIf t12_15 false (
bnd (eqlF x0_1 (.int .u8 (.ofNat 13))) fun t15_18 =>
some (SOut.normal [t15_18] h_11)) (some (SOut.normal [gundef] h_11))) fun vs_16 h_17 =>
uncons vs_16 fun x15_19 vs_20 =>
unnil vs_20 (bnd (pickF t12_15 (.bool true) x15_19) fun t16_21 =>
some (SOut.ret t16_21 h_17)))
noncomputable def T116c2 (t4_3 : GVal) (x0_1 : GVal) (h : GHeap) : SRes :=
sJoin (gIf t4_3 false (
bnd (eqlF x0_1 (.int .u8 (.ofNat 9))) fun t7_6 =>
some (SOut.normal [t7_6] h)) (some (SOut.normal [gundef] h))) fun vs_4 h_5 =>
uncons vs_4 fun x7_7 vs_8 =>
unnil vs_8 (bnd (pickF t4_3 (.bool true) x7_7) fun t8_9 =>
sJoin (gIf t8_9 false (
bnd (eqlF x0_1 (.int .u8 (.ofNat 10))) fun t11_12 =>
some (SOut.normal [t11_12] h_5)) (some (SOut.normal [gundef] h_5))) fun vs_10 h_11 =>
T116c1 vs_10 t8_9 x0_1 h_11)
/-- ratline lex.skip$1 -/
noncomputable def T116 : TFun := fun _ _ _ args h => sEnd (
uncons args fun x0_1 vs_2 =>
unnil vs_2 (bnd (eqlF x0_1 (.int .u8 (.ofNat 32))) fun t4_3 =>
T116c2 t4_3 x0_1 h))
theorem r116 : sRun s116 = T116 := by kernel_rfl
theorem e116 (u : Nat → Value → Prop) : TOK Go.Proofs.Tryz.prog (cfg u [] []) 116 T116 := .inr ⟨s116, _, _, _, r116.symm, Go.Proofs.Tryz.func116, k116 u, n116⟩
noncomputable def T118c1 (t8_9 : GVal) (x12_13 : GVal) (x14_18 : GVal) (h_16 : GHeap) (x0_1 : GVal) : SRes :=
bnd2 (gdo t8_9 false (pv (pickF x12_13 x14_18 (.bool false)) h_16) (some (gundef, h_16))) fun t15_20 h_21 =>
bnd (pickF t8_9 (.bool true) t15_20) fun t16_22 =>
sJoin (gIf t16_22 false (
bnd (eqlF x0_1 (.int .u8 (.ofNat 95))) fun t19_25 =>
some (SOut.normal [t19_25] h_21)) (some (SOut.normal [gundef] h_21))) fun vs_23 h_24 =>
uncons vs_23 fun x19_26 vs_27 =>
unnil vs_27 (bnd (pickF t16_22 (.bool true) x19_26) fun t20_28 =>
some (SOut.ret t20_28 h_24))
noncomputable def T118c2 (t8_9 : GVal) (x0_1 : GVal) (h_5 : GHeap) : SRes :=
sJoin (gIf t8_9 false (
bnd (geqF x0_1 (.int .u8 (.ofNat 65))) fun t11_12 =>
some (SOut.normal [t11_12] h_5)) (some (SOut.normal [gundef] h_5))) fun vs_10 h_11 =>
uncons vs_10 fun x12_13 vs_14 =>
unnil vs_14 (sJoin (gIf x12_13 true (
bnd (leqF x0_1 (.int .u8 (.ofNat 90))) fun t14_17 =>
some (SOut.normal [t14_17] h_11)) (some (SOut.normal [gundef] h_11))) fun vs_15 h_16 =>
uncons vs_15 fun x14_18 vs_19 =>
unnil vs_19 (T118c1 t8_9 x12_13 x14_18 h_16 x0_1))
/-- ratline lex.letter -/
noncomputable def T118 : TFun := fun _ _ _ args h => sEnd (
uncons args fun x0_1 vs_2 =>
unnil vs_2 (bnd (geqF x0_1 (.int .u8 (.ofNat 97))) fun t4_3 =>
sJoin (gIf t4_3 true (
bnd (leqF x0_1 (.int .u8 (.ofNat 122))) fun t7_6 =>
some (SOut.normal [t7_6] h)) (some (SOut.normal [gundef] h))) fun vs_4 h_5 =>
uncons vs_4 fun x7_7 vs_8 =>
unnil vs_8 (bnd (pickF t4_3 x7_7 (.bool false)) fun t8_9 =>
T118c2 t8_9 x0_1 h_5)))
theorem r118 : sRun s118 = T118 := by kernel_rfl
theorem e118 (u : Nat → Value → Prop) : TOK Go.Proofs.Tryz.prog (cfg u [] []) 118 T118 := .inr ⟨s118, _, _, _, r118.symm, Go.Proofs.Tryz.func118, k118 u, n118⟩
noncomputable def T119c1 (t17_20 : GVal) (call : CallF) (h_17 : GHeap) (t5_14 : GVal) : SRes :=
bnd (catF (.str [32]) t17_20) fun t18_21 =>
bnd (catF t18_21 (.str [32])) fun t19_22 =>
bnd2 (call 139 [(.str [32, 102, 110, 32, 108, 101, 116, 32, 105, 102, 32, 101, 108, 115, 101, 32, 119, 104, 105, 108, 101, 32, 98, 114, 101, 97, 107, 32, 99, 111, 110, 116, 105, 110, 117, 101, 32, 114, 101, 116, 117, 114, 110, 32, 112, 114, 105, 110, 116, 32, 110, 105, 108, 32]), t19_22] h_17) fun t20_23 h_24 =>
sIf t20_23 (
bnd (fieldAF 0 t5_14) fun t21_25 =>
bnd2 (storeF h_24 1 t21_25 (.int .i64 (.ofNat 2))) fun _ h_27 =>
some (SOut.normal [] h_27)) (
some (SOut.normal [] h_24))
noncomputable def T119c2 (h_6 : GHeap) (t14_13 : GVal) (x0_1 : GVal) (t7_5 : GVal) (call : CallF) (t2_3 : GVal) : SRes :=
bnd2 (allocV [(.int .i64 (.ofNat 0)), (.str []), (.int .i64 (.ofNat 0)), (.int .i64 (.ofNat 0))] h_6) fun t5_14 h_15 =>
bnd2 (storeF h_15 4 t5_14 t14_13) fun _ h_17 =>
sJoin (bnd (sliceStrF x0_1 none (some t7_5)) fun t17_20 =>
T119c1 t17_20 call h_17 t5_14) fun vs_18 h_19 =>
unnil vs_18 (bnd (loadF h_19 4 true t5_14) fun t22_28 =>
bnd2 (storeF h_19 4 t2_3 t22_28) fun _ h_30 =>
bnd (loadF h_30 4 true t2_3) fun r_31 =>
some (SOut.ret (.tuple [r_31, t7_5]) h_30))
noncomputable def T119c3 (t9_7 : GVal) (h_6 : GHeap) (t2_3 : GVal) (x0_1 : GVal) (t7_5 : GVal) (call : CallF) : SRes :=
sIf t9_7 (
bnd (buildF [(.int .i64 (.ofNat 0)), (.str []), (.int .i64 (.ofNat 0)), (.int .i64 (.ofNat 0))] []) fun t10_8 =>
bnd2 (storeF h_6 4 t2_3 t10_8) fun _ h_10 =>
bnd (loadF h_10 4 true t2_3) fun r_11 =>
some (SOut.ret (.tuple [r_11, (.int .i64 (.ofNat 0))]) h_10)) (
bnd (sliceStrF x0_1 none (some t7_5)) fun t13_12 =>
bnd (buildF [(.int .i64 (.ofNat 0)), (.str []), (.int .i64 (.ofNat 0)), (.int .i64 (.ofNat 0))] [(0, 1, (.int .i64 (.ofNat 1))), (1, 1, t13_12)]) fun t14_13 =>
T119c2 h_6 t14_13 x0_1 t7_5 call t2_3)
/-- ratline lex.name -/
noncomputable def T119 : TFun := fun _ call _ args h => sEnd (
uncons args fun x0_1 vs_2 =>
unnil vs_2 (bnd2 (allocV [(.int .i64 (.ofNat 0)), (.str []), (.int .i64 (.ofNat 0)), (.int .i64 (.ofNat 0))] h) fun t2_3 h_4 =>
bnd2 (call 115 [x0_1, (.func (.func 138) [] [])] h_4) fun t7_5 h_6 =>
bnd (gtrF t7_5 (.int .i64 (.ofNat 16))) fun t9_7 =>
T119c3 t9_7 h_6 t2_3 x0_1 t7_5 call))
theorem r119 : sRun s119 = T119 := by kernel_rfl
theorem e119 (u : Nat → Value → Prop) : TOK Go.Proofs.Tryz.prog (cfg u [] []) 119 T119 := .inr ⟨s119, _, _, _, r119.symm, Go.Proofs.Tryz.func119, k119 u, n119⟩
/-- ratline lex.digit -/
noncomputable def T120 : TFun := fun _ _ _ args h => sEnd (
uncons args fun x0_1 vs_2 =>
unnil vs_2 (bnd (geqF x0_1 (.int .u8 (.ofNat 48))) fun t4_3 =>
sJoin (gIf t4_3 true (
bnd (leqF x0_1 (.int .u8 (.ofNat 57))) fun t7_6 =>
some (SOut.normal [t7_6] h)) (some (SOut.normal [gundef] h))) fun vs_4 h_5 =>
uncons vs_4 fun x7_7 vs_8 =>
unnil vs_8 (bnd (pickF t4_3 x7_7 (.bool false)) fun t8_9 =>
some (SOut.ret t8_9 h_5))))
theorem r120 : sRun s120 = T120 := by kernel_rfl
theorem e120 (u : Nat → Value → Prop) : TOK Go.Proofs.Tryz.prog (cfg u [] []) 120 T120 := .inr ⟨s120, _, _, _, r120.symm, Go.Proofs.Tryz.func120, k120 u, n120⟩
noncomputable def T121c1 (vs_26 : List GVal) (t25_25 : GVal) (t7_18 : GVal) (h_27 : GHeap) (t9_5 : GVal) : SRes :=
uncons vs_26 fun x30_30 vs_31 =>
unnil vs_31 (bnd (pickF t25_25 x30_30 (.bool false)) fun t31_32 =>
sIf t31_32 (
bnd (fieldAF 0 t7_18) fun t32_33 =>
bnd2 (storeF h_27 1 t32_33 (.int .i64 (.ofNat 4))) fun _ h_35 =>
bnd (catF t9_5 (.int .i64 (.ofNat 1))) fun t34_36 =>
some (SOut.normal [t34_36] h_35)) (
some (SOut.normal [t9_5] h_27)))
noncomputable def T121c2 (t50_57 : GVal) (h_56 : GHeap) (t2_3 : GVal) (t7_18 : GVal) (x4_37 : GVal) : SRes :=
sIf t50_57 (
bnd (buildF [(.int .i64 (.ofNat 0)), (.str []), (.int .i64 (.ofNat 0)), (.int .i64 (.ofNat 0))] []) fun t51_58 =>
bnd2 (storeF h_56 4 t2_3 t51_58) fun _ h_60 =>
bnd (loadF h_60 4 true t2_3) fun r_61 =>
some (SOut.ret (.tuple [r_61, (.int .i64 (.ofNat 0))]) h_60)) (
bnd (loadF h_56 4 true t7_18) fun t52_62 =>
bnd2 (storeF h_56 4 t2_3 t52_62) fun _ h_64 =>
bnd (loadF h_64 4 true t2_3) fun r_65 =>
some (SOut.ret (.tuple [r_65, x4_37]) h_64))
noncomputable def T121c3 (x44_46 : GVal) (x0_1 : GVal) (x4_37 : GVal) (call : CallF) (h_42 : GHeap) (t38_40 : GVal) (t2_3 : GVal) (t7_18 : GVal) : SRes :=
sJoin (gIf x44_46 false (
bnd (ixStrF x0_1 x4_37) fun t47_50 =>
bnd2 (call 120 [t47_50] h_42) fun t48_51 h_52 =>
some (SOut.normal [t48_51] h_52)) (some (SOut.normal [gundef] h_42))) fun vs_48 h_49 =>
uncons vs_48 fun x48_53 vs_54 =>
unnil vs_54 (bnd2 (gdo t38_40 true (pv (pickF x44_46 (.bool true) x48_53) h_49) (some (gundef, h_49))) fun t49_55 h_56 =>
bnd (pickF t38_40 t49_55 (.bool false)) fun t50_57 =>
T121c2 t50_57 h_56 t2_3 t7_18 x4_37)
noncomputable def T121c4 (x0_1 : GVal) (x4_37 : GVal) (call : CallF) (h_23 : GHeap) (t2_3 : GVal) (t7_18 : GVal) : SRes :=
bnd (lenF true x0_1) fun t37_39 =>
bnd (lssF x4_37 t37_39) fun t38_40 =>
sJoin (gIf t38_40 true (
bnd (ixStrF x0_1 x4_37) fun t42_43 =>
bnd2 (call 118 [t42_43] h_23) fun t43_44 h_45 =>
some (SOut.normal [t43_44] h_45)) (some (SOut.normal [gundef] h_23))) fun vs_41 h_42 =>
uncons vs_41 fun x44_46 vs_47 =>
unnil vs_47 (T121c3 x44_46 x0_1 x4_37 call h_42 t38_40 t2_3 t7_18)
noncomputable def T121c5 (x0_1 : GVal) (t9_5 : GVal) (h_21 : GHeap) (t7_18 : GVal) (call : CallF) (t2_3 : GVal) : SRes :=
sJoin (bnd (lenF true x0_1) fun t24_24 =>
bnd (lssF t9_5 t24_24) fun t25_25 =>
sJoin (gIf t25_25 true (
bnd (ixStrF x0_1 t9_5) fun t29_28 =>
bnd (eqlF t29_28 (.int .u8 (.ofNat 105))) fun t30_29 =>
some (SOut.normal [t30_29] h_21)) (some (SOut.normal [gundef] h_21))) fun vs_26 h_27 =>
T121c1 vs_26 t25_25 t7_18 h_27 t9_5) fun vs_22 h_23 =>
uncons vs_22 fun x4_37 vs_38 =>
unnil vs_38 (T121c4 x0_1 x4_37 call h_23 t2_3 t7_18)
noncomputable def T121c6 (t18_12 : GVal) (h_9 : GHeap) (t2_3 : GVal) (t15_10 : GVal) (x0_1 : GVal) (t9_5 : GVal) (call : CallF) : SRes :=
sIf t18_12 (
bnd (buildF [(.int .i64 (.ofNat 0)), (.str []), (.int .i64 (.ofNat 0)), (.int .i64 (.ofNat 0))] []) fun t19_13 =>
bnd2 (storeF h_9 4 t2_3 t19_13) fun _ h_15 =>
bnd (loadF h_15 4 true t2_3) fun r_16 =>
some (SOut.ret (.tuple [r_16, (.int .i64 (.ofNat 0))]) h_15)) (
bnd (buildF [(.int .i64 (.ofNat 0)), (.str []), (.int .i64 (.ofNat 0)), (.int .i64 (.ofNat 0))] [(0, 1, (.int .i64 (.ofNat 3))), (2, 1, t15_10)]) fun t21_17 =>
bnd2 (allocV [(.int .i64 (.ofNat 0)), (.str []), (.int .i64 (.ofNat 0)), (.int .i64 (.ofNat 0))] h_9) fun t7_18 h_19 =>
bnd2 (storeF h_19 4 t7_18 t21_17) fun _ h_21 =>
T121c5 x0_1 t9_5 h_21 t7_18 call t2_3)
noncomputable def T121c7 (h : GHeap) (call : CallF) (x0_1 : GVal) : SRes :=
bnd2 (allocV [(.int .i64 (.ofNat 0)), (.str []), (.int .i64 (.ofNat 0)), (.int .i64 (.ofNat 0))] h) fun t2_3 h_4 =>
bnd2 (call 115 [x0_1, (.func (.func 120) [] [])] h_4) fun t9_5 h_6 =>
bnd (sliceStrF x0_1 none (some t9_5)) fun t13_7 =>
bnd2 (call 140 [t13_7, (.int .i64 (.ofNat 10)), (.int .i64 (.ofNat 64))] h_6) fun t14_8 h_9 =>
bnd (extrF 0 t14_8) fun t15_10 =>
bnd (extrF 1 t14_8) fun t16_11 =>
bnd (eqV true .iface t16_11 .nilIface) fun t18_12 =>
T121c6 t18_12 h_9 t2_3 t15_10 x0_1 t9_5 call
/-- ratline lex.number -/
noncomputable def T121 : TFun := fun _ call _ args h => sEnd (
uncons args fun x0_1 vs_2 =>
unnil vs_2 (T121c7 h call x0_1))
theorem r121 : sRun s121 = T121 := by kernel_rfl
theorem e121 (u : Nat → Value → Prop) : TOK Go.Proofs.Tryz.prog (cfg u [] []) 121 T121 := .inr ⟨s121, _, _, _, r121.symm, Go.Proofs.Tryz.func121, k121 u, n121⟩
noncomputable def T123c1 (t6_5 : GVal) (x7_10 : GVal) (call : CallF) (x0_1 : GVal) (h_9 : GHeap) (t2_3 : GVal) : SRes :=
bnd (ixArrV 1 6 false t6_5 x7_10) fun t9_15 =>
bnd2 (call 142 [x0_1, t9_15] h_9) fun t12_16 h_17 =>
sIf t12_16 (
bnd (buildF [(.int .i64 (.ofNat 0)), (.str []), (.int .i64 (.ofNat 0)), (.int .i64 (.ofNat 0))] [(0, 1, (.int .i64 (.ofNat 6))), (1, 1, t9_15)]) fun t14_18 =>
bnd2 (storeF h_17 4 t2_3 t14_18) fun _ h_20 =>
bnd (loadF h_20 4 true t2_3) fun r_21 =>
some (SOut.ret (.tuple [r_21, (.int .i64 (.ofNat 2))]) h_20)) (
some (SOut.normal [] h_17))
noncomputable def T123c2 (t6_5 : GVal) (call : CallF) (x0_1 : GVal) (t2_3 : GVal) (n : Nat) (h_4 : GHeap) : SRes :=
sLoop (fun vs_8 h_9 =>
uncons vs_8 fun x7_10 vs_11 =>
unnil vs_11 (bnd (lssF x7_10 (.int .i64 (.ofNat 6))) fun t8_12 =>
sIf t8_12 (
sBlk 1 (T123c1 t6_5 x7_10 call x0_1 h_9 t2_3) fun vs_13 h_14 =>
unnil vs_13 (bnd (catF x7_10 (.int .i64 (.ofNat 1))) fun t15_22 =>
some (SOut.normal [t15_22] h_14))) (
some (SOut.exit 0 [] h_9)))) n [(.int .i64 (.ofNat 0))] h_4
noncomputable def T123c3 (t19_26 : GVal) (x0_1 : GVal) (h_25 : GHeap) (t2_3 : GVal) : SRes :=
sIf t19_26 (
bnd (sliceStrF x0_1 none (some (.int .i64 (.ofNat 1)))) fun t21_27 =>
bnd (buildF [(.int .i64 (.ofNat 0)), (.str []), (.int .i64 (.ofNat 0)), (.int .i64 (.ofNat 0))] [(0, 1, (.int .i64 (.ofNat 6))), (1, 1, t21_27)]) fun t22_28 =>
bnd2 (storeF h_25 4 t2_3 t22_28) fun _ h_30 =>
bnd (loadF h_30 4 true t2_3) fun r_31 =>
some (SOut.ret (.tuple [r_31, (.int .i64 (.ofNat 1))]) h_30)) (
bnd (buildF [(.int .i64 (.ofNat 0)), (.str []), (.int .i64 (.ofNat 0)), (.int .i64 (.ofNat 0))] []) fun t23_32 =>
bnd2 (storeF h_25 4 t2_3 t23_32) fun _ h_34 =>
bnd (loadF h_34 4 true t2_3) fun r_35 =>
some (SOut.ret (.tuple [r_35, (.int .i64 (.ofNat 0))]) h_34))
/-- ratline lex.op -/
noncomputable def T123 : TFun := fun _ call n args h => sEnd (
uncons args fun x0_1 vs_2 =>
unnil vs_2 (bnd2 (allocV [(.int .i64 (.ofNat 0)), (.str []), (.int .i64 (.ofNat 0)), (.int .i64 (.ofNat 0))] h) fun t2_3 h_4 =>
bnd (buildF [(.str []), (.str []), (.str []), (.str []), (.str []), (.str [])] [(0, 1, (.str [61, 61])), (1, 1, (.str [33, 61])), (2, 1, (.str [60, 61])), (3, 1, (.str [62, 61])), (4, 1, (.str [38, 38])), (5, 1, (.str [124, 124]))]) fun t6_5 =>
sBlk 0 (T123c2 t6_5 call x0_1 t2_3 n h_4) fun vs_6 h_7 =>
unnil vs_6 (bnd (ixStrF x0_1 (.int .i64 (.ofNat 0))) fun t17_23 =>
bnd2 (call 143 [(.str [40, 41, 123, 125, 91, 93, 44, 59, 61, 43, 45, 42, 47, 37, 60, 62, 33]), t17_23] h_7) fun t18_24 h_25 =>
bnd (geqF t18_24 (.int .i64 (.ofNat 0))) fun t19_26 =>
T123c3 t19_26 x0_1 h_25 t2_3)))
theorem r123 : sRun s123 = T123 := by kernel_rfl
theorem e123 (u : Nat → Value → Prop) : TOK Go.Proofs.Tryz.prog (cfg u [] []) 123 T123 := .inr ⟨s123, _, _, _, r123.symm, Go.Proofs.Tryz.func123, k123 u, n123⟩
noncomputable def T124c1 (t33_41 : GVal) (h_22 : GHeap) (t31_39 : GVal) : SRes :=
bnd (fieldAF 1 t33_41) fun t34_42 =>
bnd (loadF h_22 1 false t34_42) fun t35_43 =>
bnd (catF t35_43 (.int .i64 (.ofNat 1))) fun t36_44 =>
bnd (ixSF 4 t31_39 t36_44) fun t37_45 =>
bnd (fieldAF 0 t37_45) fun t38_46 =>
bnd (loadF h_22 1 false t38_46) fun t39_47 =>
bnd (neqF t39_47 (.int .i64 (.ofNat 6))) fun t40_48 =>
some (SOut.normal [t40_48] h_22)
noncomputable def T124c2 (t48_59 : GVal) (h_35 : GHeap) (t46_57 : GVal) : SRes :=
bnd (fieldAF 1 t48_59) fun t49_60 =>
bnd (loadF h_35 1 false t49_60) fun t50_61 =>
bnd (catF t50_61 (.int .i64 (.ofNat 1))) fun t51_62 =>
bnd (ixSF 4 t46_57 t51_62) fun t52_63 =>
bnd (fieldAF 1 t52_63) fun t53_64 =>
bnd (loadF h_35 1 false t53_64) fun t54_65 =>
bnd (neqF t54_65 (.str [40])) fun t55_66 =>
some (SOut.normal [t55_66] h_35)
noncomputable def T124c3 (t60_73 : GVal) (t57_70 : GVal) (h_53 : GHeap) (t3_19 : GVal) (t2_5 : GVal) : SRes :=
bnd (catF t60_73 (.int .i64 (.ofNat 1))) fun t61_74 =>
bnd (nilChkF t57_70) fun t62_75 =>
bnd (fieldAF 1 t62_75) fun t63_76 =>
bnd2 (storeF h_53 1 t63_76 t61_74) fun _ h_78 =>
bnd (loadF h_78 5 true t3_19) fun t64_79 =>
bnd2 (storeF h_78 5 t2_5 t64_79) fun _ h_81 =>
bnd (loadF h_81 5 true t2_5) fun r_82 =>
some (SOut.ret r_82 h_81)
noncomputable def T124c4 (h_53 : GHeap) (t65_83 : GVal) (t1_3 : GVal) (t3_19 : GVal) (call : CallF) (t2_5 : GVal) : SRes :=
bnd2 (storeF h_53 1 t65_83 (.int .i64 (.ofNat 20))) fun _ h_85 =>
bnd (loadF h_85 1 false t1_3) fun t66_86 =>
bnd (some (GVal.func (.func 144) [] [t1_3, t3_19])) fun t67_87 =>
bnd2 (call 94 [t66_86, t67_87] h_85) fun _ h_89 =>
bnd (loadF h_89 5 true t3_19) fun t69_90 =>
bnd2 (storeF h_89 5 t2_5 t69_90) fun _ h_92 =>
bnd (loadF h_92 5 true t2_5) fun r_93 =>
some (SOut.ret r_93 h_92)
noncomputable def T124c5 (t56_69 : GVal) (h_53 : GHeap) (t1_3 : GVal) (t3_19 : GVal) (t2_5 : GVal) (call : CallF) : SRes :=
sIf t56_69 (
bnd (loadF h_53 1 false t1_3) fun t57_70 =>
bnd (nilChkF t57_70) fun t58_71 =>
bnd (fieldAF 1 t58_71) fun t59_72 =>
bnd (loadF h_53 1 false t59_72) fun t60_73 =>
T124c3 t60_73 t57_70 h_53 t3_19 t2_5) (
bnd (fieldAF 0 t3_19) fun t65_83 =>
T124c4 h_53 t65_83 t1_3 t3_19 call t2_5)
noncomputable def T124c6 (t41_51 : GVal) (h_35 : GHeap) (t1_3 : GVal) (t3_19 : GVal) (t2_5 : GVal) (call : CallF) : SRes :=
sJoin (gIf t41_51 false (
bnd (loadF h_35 1 false t1_3) fun t43_54 =>
bnd (nilChkF t43_54) fun t44_55 =>
bnd (fieldAF 0 t44_55) fun t45_56 =>
bnd (loadF h_35 1 false t45_56) fun t46_57 =>
bnd (loadF h_35 1 false t1_3) fun t47_58 =>
bnd (nilChkF t47_58) fun t48_59 =>
T124c2 t48_59 h_35 t46_57) (some (SOut.normal [gundef] h_35))) fun vs_52 h_53 =>
uncons vs_52 fun x55_67 vs_68 =>
unnil vs_68 (bnd (pickF t41_51 (.bool true) x55_67) fun t56_69 =>
T124c5 t56_69 h_53 t1_3 t3_19 t2_5 call)
noncomputable def T124c7 (t26_33 : GVal) (h_22 : GHeap) (t1_3 : GVal) (t3_19 : GVal) (t2_5 : GVal) (call : CallF) : SRes :=
sJoin (gIf t26_33 false (
bnd (loadF h_22 1 false t1_3) fun t28_36 =>
bnd (nilChkF t28_36) fun t29_37 =>
bnd (fieldAF 0 t29_37) fun t30_38 =>
bnd (loadF h_22 1 false t30_38) fun t31_39 =>
bnd (loadF h_22 1 false t1_3) fun t32_40 =>
bnd (nilChkF t32_40) fun t33_41 =>
T124c1 t33_41 h_22 t31_39) (some (SOut.normal [gundef] h_22))) fun vs_34 h_35 =>
uncons vs_34 fun x40_49 vs_50 =>
unnil vs_50 (bnd (pickF t26_33 (.bool true) x40_49) fun t41_51 =>
T124c6 t41_51 h_35 t1_3 t3_19 t2_5 call)
noncomputable def T124c8 (t19_26 : GVal) (h_22 : GHeap) (t1_3 : GVal) (t3_19 : GVal) (t2_5 : GVal) (call : CallF) : SRes :=
bnd (catF t19_26 (.int .i64 (.ofNat 1))) fun t20_27 =>
bnd (loadF h_22 1 false t1_3) fun t21_28 =>
bnd (nilChkF t21_28) fun t22_29 =>
bnd (fieldAF 0 t22_29) fun t23_30 =>
bnd (loadF h_22 1 false t23_30) fun t24_31 =>
bnd (lenF false t24_31) fun t25_32 =>
bnd (geqF t20_27 t25_32) fun t26_33 =>
T124c7 t26_33 h_22 t1_3 t3_19 t2_5 call
noncomputable def T124c9 (h_6 : GHeap) (t15_18 : GVal) (t1_3 : GVal) (t4_7 : GVal) (t6_9 : GVal) (t7_10 : GVal) (t8_11 : GVal) (t10_13 : GVal) (t11_14 : GVal) (t13_16 : GVal) (t14_17 : GVal) (t2_5 : GVal) (call : CallF) : SRes :=
bnd2 (allocV [(.int .i64 (.ofNat 0)), (.int .i64 (.ofNat 0)), (.str []), (.int .i64 (.ofNat 0)), .nils] h_6) fun t3_19 h_20 =>
bnd2 (storeF h_20 5 t3_19 t15_18) fun _ h_22 =>
guardS (((chkV (loadV h_20 1 false t1_3) t4_7) && ((chkV (loadV h_20 1 false t6_9) t7_10) && ((chkV (loadV h_20 1 false t1_3) t8_11) && ((chkV (loadV h_20 1 false t10_13) t11_14) && ((chkV (loadV h_20 1 false t13_16) t14_17) && true))))) && true) (
bnd (loadF h_22 1 false t1_3) fun t16_23 =>
bnd (nilChkF t16_23) fun t17_24 =>
bnd (fieldAF 1 t17_24) fun t18_25 =>
bnd (loadF h_22 1 false t18_25) fun t19_26 =>
T124c8 t19_26 h_22 t1_3 t3_19 t2_5 call)
noncomputable def T124c10 (t8_11 : GVal) (h_6 : GHeap) (t7_10 : GVal) (t1_3 : GVal) (t4_7 : GVal) (t6_9 : GVal) (t2_5 : GVal) (call : CallF) : SRes :=
bnd (nilChkF t8_11) fun t9_12 =>
bnd (fieldAF 1 t9_12) fun t10_13 =>
bnd (loadF h_6 1 false t10_13) fun t11_14 =>
bnd (ixSF 4 t7_10 t11_14) fun t12_15 =>
bnd (fieldAF 1 t12_15) fun t13_16 =>
bnd (loadF h_6 1 false t13_16) fun t14_17 =>
bnd (buildF [(.int .i64 (.ofNat 0)), (.int .i64 (.ofNat 0)), (.str []), (.int .i64 (.ofNat 0)), .nils] [(0, 1, (.int .i64 (.ofNat 19))), (2, 1, t14_17)]) fun t15_18 =>
T124c9 h_6 t15_18 t1_3 t4_7 t6_9 t7_10 t8_11 t10_13 t11_14 t13_16 t14_17 t2_5 call
noncomputable def T124c11 (h : GHeap) (x0_1 : GVal) (call : CallF) : SRes :=
bnd2 (boxF h 1 x0_1) fun t1_3 h_4 =>
bnd2 (allocV [(.int .i64 (.ofNat 0)), (.int .i64 (.ofNat 0)), (.str []), (.int .i64 (.ofNat 0)), .nils] h_4) fun t2_5 h_6 =>
bnd (loadF h_6 1 false t1_3) fun t4_7 =>
bnd (nilChkF t4_7) fun t5_8 =>
bnd (fieldAF 0 t5_8) fun t6_9 =>
bnd (loadF h_6 1 false t6_9) fun t7_10 =>
bnd (loadF h_6 1 false t1_3) fun t8_11 =>
T124c10 t8_11 h_6 t7_10 t1_3 t4_7 t6_9 t2_5 call
/--   ratline parse.parser .named -/
noncomputable def T124 : TFun := fun _ call _ args h => sEnd (
uncons args fun x0_1 vs_2 =>
unnil vs_2 (T124c11 h x0_1 call))
theorem r124 : sRun s124 = T124 := by kernel_rfl
theorem e124 (u : Nat → Value → Prop) : TOK Go.Proofs.Tryz.prog (cfg u [] []) 124 T124 := .inr ⟨s124, _, _, _, r124.symm, Go.Proofs.Tryz.func124, k124 u, n124⟩
noncomputable def T125c1 (t19_28 : GVal) (h_29 : GHeap) (t1_3 : GVal) (t3_8 : GVal) (call : CallF) : SRes :=
sIf t19_28 (
bnd (loadF h_29 1 false t1_3) fun t20_30 =>
bnd (some (GVal.func (.func 147) [] [t1_3, t3_8])) fun t21_31 =>
bnd2 (call 94 [t20_30, t21_31] h_29) fun _ h_33 =>
some (SOut.normal [] h_33)) (
bnd (loadF h_29 1 false t1_3) fun t5_34 =>
bnd2 (call 28 [t5_34, (.int .i64 (.ofNat 10))] h_29) fun _ h_36 =>
some (SOut.normal [] h_36))
noncomputable def T125c2 (t12_18 : GVal) (t3_8 : GVal) (h_19 : GHeap) (t1_3 : GVal) (call : CallF) : SRes :=
sIf t12_18 (
bnd (fieldAF 0 t3_8) fun t13_20 =>
bnd2 (storeF h_19 1 t13_20 (.int .i64 (.ofNat 21))) fun _ h_22 =>
bnd (loadF h_22 1 false t1_3) fun t14_23 =>
bnd (some (GVal.func (.func 146) [] [t1_3, t3_8])) fun t15_24 =>
bnd2 (call 94 [t14_23, t15_24] h_22) fun _ h_26 =>
some (SOut.normal [] h_26)) (
bnd (loadF h_19 1 false t1_3) fun t18_27 =>
bnd2 (call 93 [t18_27, (.int .i64 (.ofNat 6)), (.str [40])] h_19) fun t19_28 h_29 =>
T125c1 t19_28 h_29 t1_3 t3_8 call)
noncomputable def T125c3 (h_11 : GHeap) (t1_3 : GVal) (call : CallF) (t3_8 : GVal) (t2_5 : GVal) : SRes :=
sBlk 0 (bnd (loadF h_11 1 false t1_3) fun t8_14 =>
bnd2 (call 68 [t8_14, (.str [110, 105, 108])] h_11) fun t9_15 h_16 =>
sIf t9_15 (
some (SOut.normal [] h_16)) (
bnd (loadF h_16 1 false t1_3) fun t11_17 =>
bnd2 (call 93 [t11_17, (.int .i64 (.ofNat 6)), (.str [91])] h_16) fun t12_18 h_19 =>
T125c2 t12_18 t3_8 h_19 t1_3 call)) fun vs_12 h_13 =>
unnil vs_12 (bnd (loadF h_13 5 true t3_8) fun t23_37 =>
bnd2 (storeF h_13 5 t2_5 t23_37) fun _ h_39 =>
bnd (loadF h_39 5 true t2_5) fun r_40 =>
some (SOut.ret r_40 h_39))
/--   ratline parse.parser .other -/
noncomputable def T125 : TFun := fun _ call _ args h => sEnd (
uncons args fun x0_1 vs_2 =>
unnil vs_2 (bnd2 (boxF h 1 x0_1) fun t1_3 h_4 =>
bnd2 (allocV [(.int .i64 (.ofNat 0)), (.int .i64 (.ofNat 0)), (.str []), (.int .i64 (.ofNat 0)), .nils] h_4) fun t2_5 h_6 =>
bnd (buildF [(.int .i64 (.ofNat 0)), (.int .i64 (.ofNat 0)), (.str []), (.int .i64 (.ofNat 0)), .nils] [(0, 1, (.int .i64 (.ofNat 18)))]) fun t4_7 =>
bnd2 (allocV [(.int .i64 (.ofNat 0)), (.int .i64 (.ofNat 0)), (.str []), (.int .i64 (.ofNat 0)), .nils] h_6) fun t3_8 h_9 =>
bnd2 (storeF h_9 5 t3_8 t4_7) fun _ h_11 =>
T125c3 h_11 t1_3 call t3_8 t2_5))
theorem r125 : sRun s125 = T125 := by kernel_rfl
theorem e125 (u : Nat → Value → Prop) : TOK Go.Proofs.Tryz.prog (cfg u [] []) 125 T125 := .inr ⟨s125, _, _, _, r125.symm, Go.Proofs.Tryz.func125, k125 u, n125⟩
noncomputable def T127c1 (h_27 : GHeap) (t17_25 : GVal) (t22_30 : GVal) (t3_11 : GVal) (t16_24 : GVal) (t2_3 : GVal) : SRes :=
bnd2 (appendF h_27 5 64 true false t17_25 t22_30) fun t23_31 h_32 =>
bnd (fieldAF 4 t3_11) fun t24_33 =>
bnd2 (storeF h_32 1 t24_33 t23_31) fun _ h_35 =>
guardS (((chkV (loadV h_27 1 false t16_24) t17_25) && true) && true) (
bnd (loadF h_35 5 true t3_11) fun t25_36 =>
bnd2 (storeF h_35 5 t2_3 t25_36) fun _ h_38 =>
bnd (loadF h_38 5 true t2_3) fun r_39 =>
some (SOut.ret r_39 h_38))
noncomputable def T127c2 (h_43 : GHeap) (t27_41 : GVal) (t30_44 : GVal) (t3_11 : GVal) (t26_40 : GVal) (t2_3 : GVal) : SRes :=
bnd2 (appendF h_43 5 64 true false t27_41 t30_44) fun t31_45 h_46 =>
bnd (fieldAF 4 t3_11) fun t32_47 =>
bnd2 (storeF h_46 1 t32_47 t31_45) fun _ h_49 =>
guardS (((chkV (loadV h_43 1 false t26_40) t27_41) && true) && true) (
bnd (loadF h_49 5 true t3_11) fun t33_50 =>
bnd2 (storeF h_49 5 t2_3 t33_50) fun _ h_52 =>
bnd (loadF h_52 5 true t2_3) fun r_53 =>
some (SOut.ret r_53 h_52))
noncomputable def T127c3 (t15_22 : GVal) (t3_11 : GVal) (h_23 : GHeap) (call : CallF) (x0_1 : GVal) (t2_3 : GVal) : SRes :=
sIf t15_22 (
bnd (fieldAF 4 t3_11) fun t16_24 =>
bnd (loadF h_23 1 false t16_24) fun t17_25 =>
bnd2 (call 127 [x0_1] h_23) fun t19_26 h_27 =>
bnd (buildSlF (.agg [(.int .i64 (.ofNat 0)), (.int .i64 (.ofNat 0)), (.str []), (.int .i64 (.ofNat 0)), .nils]) 5 1 [(0, t19_26)]) fun t20_28 =>
bnd (buildF [(.int .i64 (.ofNat 0)), (.int .i64 (.ofNat 0)), (.str []), (.int .i64 (.ofNat 0)), .nils] [(0, 1, (.int .i64 (.ofNat 10))), (4, 1, t20_28)]) fun t21_29 =>
bnd (buildSlF (.agg [(.int .i64 (.ofNat 0)), (.int .i64 (.ofNat 0)), (.str []), (.int .i64 (.ofNat 0)), .nils]) 5 1 [(0, t21_29)]) fun t22_30 =>
T127c1 h_27 t17_25 t22_30 t3_11 t16_24 t2_3) (
bnd (fieldAF 4 t3_11) fun t26_40 =>
bnd (loadF h_23 1 false t26_40) fun t27_41 =>
bnd2 (call 72 [x0_1] h_23) fun t29_42 h_43 =>
bnd (buildSlF (.agg [(.int .i64 (.ofNat 0)), (.int .i64 (.ofNat 0)), (.str []), (.int .i64 (.ofNat 0)), .nils]) 5 1 [(0, t29_42)]) fun t30_44 =>
T127c2 h_43 t27_41 t30_44 t3_11 t26_40 t2_3)
noncomputable def T127c4 (t11_15 : GVal) (h_16 : GHeap) (t3_11 : GVal) (t2_3 : GVal) (call : CallF) (x0_1 : GVal) : SRes :=
bnd (unF .not t11_15) fun t12_17 =>
sIf t12_17 (
bnd (loadF h_16 5 true t3_11) fun t13_18 =>
bnd2 (storeF h_16 5 t2_3 t13_18) fun _ h_20 =>
bnd (loadF h_20 5 true t2_3) fun r_21 =>
some (SOut.ret r_21 h_20)) (
bnd2 (call 68 [x0_1, (.str [105, 102])] h_16) fun t15_22 h_23 =>
T127c3 t15_22 t3_11 h_23 call x0_1 t2_3)
noncomputable def T127c5 (call : CallF) (x0_1 : GVal) (h_4 : GHeap) (t2_3 : GVal) : SRes :=
bnd2 (call 27 [x0_1, (.int .i64 (.ofNat 1))] h_4) fun t5_5 h_6 =>
bnd2 (call 72 [x0_1] h_6) fun t7_7 h_8 =>
bnd (buildSlF (.agg [(.int .i64 (.ofNat 0)), (.int .i64 (.ofNat 0)), (.str []), (.int .i64 (.ofNat 0)), .nils]) 5 2 [(0, t5_5), (1, t7_7)]) fun t8_9 =>
bnd (buildF [(.int .i64 (.ofNat 0)), (.int .i64 (.ofNat 0)), (.str []), (.int .i64 (.ofNat 0)), .nils] [(0, 1, (.int .i64 (.ofNat 3))), (4, 1, t8_9)]) fun t9_10 =>
bnd2 (allocV [(.int .i64 (.ofNat 0)), (.int .i64 (.ofNat 0)), (.str []), (.int .i64 (.ofNat 0)), .nils] h_8) fun t3_11 h_12 =>
bnd2 (storeF h_12 5 t3_11 t9_10) fun _ h_14 =>
bnd2 (call 68 [x0_1, (.str [101, 108, 115, 101])] h_14) fun t11_15 h_16 =>
T127c4 t11_15 h_16 t3_11 t2_3 call x0_1
/--   ratline parse.parser .iff -/
noncomputable def T127 : TFun := fun _ call _ args h => sEnd (
uncons args fun x0_1 vs_2 =>
unnil vs_2 (bnd2 (allocV [(.int .i64 (.ofNat 0)), (.int .i64 (.ofNat 0)), (.str []), (.int .i64 (.ofNat 0)), .nils] h) fun t2_3 h_4 =>
T127c5 call x0_1 h_4 t2_3))
theorem r127 : sRun s127 = T127 := by kernel_rfl
theorem e127 (u : Nat → Value → Prop) : TOK Go.Proofs.Tryz.prog (cfg u [] []) 127 T127 := .inr ⟨s127, _, _, _, r127.symm, Go.Proofs.Tryz.func127, k127 u, n127⟩
noncomputable def T129c1 (t4_3 : GVal) (x0_1 : GVal) (h : GHeap) : SRes :=
sIf t4_3 (
bnd (catF x0_1 (.int .i64 (.ofNat 1))) fun t7_4 =>
bnd (sliceStrF (.str [48, 49, 50, 51, 52, 53, 54, 55, 56, 57, 97, 98, 99, 100, 101, 102, 103, 104, 105, 106, 107, 108, 109, 110, 111, 112, 113, 114, 115, 116, 117, 118, 119, 120, 121, 122]) (some x0_1) (some t7_4)) fun t8_5 =>
some (SOut.ret t8_5 h)) (
bnd (gBin .mul x0_1 (.int .i64 (.ofNat 2))) fun t10_6 =>
bnd (gBin .mul x0_1 (.int .i64 (.ofNat 2))) fun t12_7 =>
bnd (catF t12_7 (.int .i64 (.ofNat 2))) fun t13_8 =>
bnd (sliceStrF (.str [48, 48, 48, 49, 48, 50, 48, 51, 48, 52, 48, 53, 48, 54, 48, 55, 48, 56, 48, 57, 49, 48, 49, 49, 49, 50, 49, 51, 49, 52, 49, 53, 49, 54, 49, 55, 49, 56, 49, 57, 50, 48, 50, 49, 50, 50, 50, 51, 50, 52, 50, 53, 50, 54, 50, 55, 50, 56, 50, 57, 51, 48, 51, 49, 51, 50, 51, 51, 51, 52, 51, 53, 51, 54, 51, 55, 51, 56, 51, 57, 52, 48, 52, 49, 52, 50, 52, 51, 52, 52, 52, 53, 52, 54, 52, 55, 52, 56, 52, 57, 53, 48, 53, 49, 53, 50, 53, 51, 53, 52, 53, 53, 53, 54, 53, 55, 53, 56, 53, 57, 54, 48, 54, 49, 54, 50, 54, 51, 54, 52, 54, 53, 54, 54, 54, 55, 54, 56, 54, 57, 55, 48, 55, 49, 55, 50, 55, 51, 55, 52, 55, 53, 55, 54, 55, 55, 55, 56, 55, 57, 56, 48, 56, 49, 56, 50, 56, 51, 56, 52, 56, 53, 56, 54, 56, 55, 56, 56, 56, 57, 57, 48, 57, 49, 57, 50, 57, 51, 57, 52, 57, 53, 57, 54, 57, 55, 57, 56, 57, 57]) (some t10_6) (some t13_8)) fun t14_9 =>
some (SOut.ret t14_9 h))
/-- internal strconv.small -/
noncomputable def T129 : TFun := fun _ _ _ args h => sEnd (
uncons args fun x0_1 vs_2 =>
unnil vs_2 (bnd (lssF x0_1 (.int .i64 (.ofNat 10))) fun t4_3 =>
T129c1 t4_3 x0_1 h))
theorem r129 : sRun s129 = T129 := by kernel_rfl
theorem e129 (u : Nat → Value → Prop) : TOK Go.Proofs.Tryz.prog (cfg u [] []) 129 T129 := .inr ⟨s129, _, _, _, r129.symm, Go.Proofs.Tryz.func129, k129 u, n129⟩
/-- ratline lex.name$1 -/
noncomputable def T138 : TFun := fun _ call _ args h => sEnd (
uncons args fun x0_1 vs_2 =>
unnil vs_2 (bnd2 (call 118 [x0_1] h) fun t4_3 h_4 =>
sJoin (gIf t4_3 false (
bnd2 (call 120 [x0_1] h_4) fun t7_7 h_8 =>
some (SOut.normal [t7_7] h_8)) (some (SOut.normal [gundef] h_4))) fun vs_5 h_6 =>
uncons vs_5 fun x7_9 vs_10 =>
unnil vs_10 (bnd (pickF t4_3 (.bool true) x7_9) fun t8_11 =>
some (SOut.ret t8_11 h_6))))
theorem r138 : sRun s138 = T138 := by kernel_rfl
theorem e138 (u : Nat → Value → Prop) : TOK Go.Proofs.Tryz.prog (cfg u [] []) 138 T138 := .inr ⟨s138, _, _, _, r138.symm, Go.Proofs.Tryz.func138, k138 u, n138⟩
/-- strings.Contains -/
noncomputable def T139 : TFun := fun _ call _ args h => sEnd (
uncons args fun x0_1 vs_2 =>
uncons vs_2 fun x1_3 vs_4 =>
unnil vs_4 (bnd2 (call 160 [x0_1, x1_3] h) fun t7_5 h_6 =>
bnd (geqF t7_5 (.int .i64 (.ofNat 0))) fun t8_7 =>
some (SOut.ret t8_7 h_6)))
theorem r139 : sRun s139 = T139 := by kernel_rfl
theorem e139 (u : Nat → Value → Prop) : TOK Go.Proofs.Tryz.prog (cfg u [] []) 139 T139 := .inr ⟨s139, _, _, _, r139.symm, Go.Proofs.Tryz.func139, k139 u, n139⟩
noncomputable def T140c1 (call : CallF) (x0_1 : GVal) (x1_3 : GVal) (x2_5 : GVal) (h : GHeap) : SRes :=
bnd2 (call 161 [x0_1, x1_3, x2_5] h) fun t13_7 h_8 =>
bnd (extrF 0 t13_7) fun t14_9 =>
bnd (extrF 1 t13_7) fun t15_10 =>
bnd (eqV true .iface t15_10 .nilIface) fun t17_11 =>
sIf t17_11 (
bnd2 (call 162 [(.str [80, 97, 114, 115, 101, 73, 110, 116]), x0_1, x1_3, x2_5, t15_10] h_8) fun t23_12 h_13 =>
some (SOut.ret (.tuple [t14_9, t23_12]) h_13)) (
some (SOut.ret (.tuple [t14_9, .nilIface]) h_8))
/-- strconv.ParseInt -/
noncomputable def T140 : TFun := fun _ call _ args h => sEnd (
uncons args fun x0_1 vs_2 =>
uncons vs_2 fun x1_3 vs_4 =>
uncons vs_4 fun x2_5 vs_6 =>
unnil vs_6 (T140c1 call x0_1 x1_3 x2_5 h))
theorem r140 : sRun s140 = T140 := by kernel_rfl
theorem e140 (u : Nat → Value → Prop) : TOK Go.Proofs.Tryz.prog (cfg u [] []) 140 T140 := .inr ⟨s140, _, _, _, r140.symm, Go.Proofs.Tryz.func140, k140 u, n140⟩
/-- strings.HasPrefix -/
noncomputable def T142 : TFun := fun _ call _ args h => sEnd (
uncons args fun x0_1 vs_2 =>
uncons vs_2 fun x1_3 vs_4 =>
unnil vs_4 (bnd2 (call 163 [x0_1, x1_3] h) fun t7_5 h_6 =>
some (SOut.ret t7_5 h_6)))
theorem r142 : sRun s142 = T142 := by kernel_rfl
theorem e142 (u : Nat → Value → Prop) : TOK Go.Proofs.Tryz.prog (cfg u [] []) 142 T142 := .inr ⟨s142, _, _, _, r142.symm, Go.Proofs.Tryz.func142, k142 u, n142⟩
/-- strings.IndexByte -/
noncomputable def T143 : TFun := fun _ call _ args h => sEnd (
uncons args fun x0_1 vs_2 =>
uncons vs_2 fun x1_3 vs_4 =>
unnil vs_4 (bnd2 (call 164 [x0_1, x1_3] h) fun t7_5 h_6 =>
some (SOut.ret t7_5 h_6)))
theorem r143 : sRun s143 = T143 := by kernel_rfl
theorem e143 (u : Nat → Value → Prop) : TOK Go.Proofs.Tryz.prog (cfg u [] []) 143 T143 := .inr ⟨s143, _, _, _, r143.symm, Go.Proofs.Tryz.func143, k143 u, n143⟩
noncomputable def T144c1 (t2_5 : GVal) (h : GHeap) (t6_9 : GVal) (x0_1 : GVal) (call : CallF) (x1_3 : GVal) : SRes :=
bnd (nilChkF t2_5) fun t7_10 =>
bnd (fieldAF 1 t7_10) fun t8_11 =>
bnd2 (storeF h 1 t8_11 t6_9) fun _ h_13 =>
bnd (loadF h_13 1 false x0_1) fun t9_14 =>
bnd2 (call 145 [t9_14, (.str [41])] h_13) fun t10_15 h_16 =>
bnd (fieldAF 4 x1_3) fun t11_17 =>
bnd2 (storeF h_16 1 t11_17 t10_15) fun _ h_19 =>
some (SOut.ret (.tuple []) h_19)
/--   ratline parse.parser .named$1 -/
noncomputable def T144 : TFun := fun _ call _ args h => sEnd (
uncons args fun x0_1 vs_2 =>
uncons vs_2 fun x1_3 vs_4 =>
unnil vs_4 (bnd (loadF h 1 false x0_1) fun t2_5 =>
bnd (nilChkF t2_5) fun t3_6 =>
bnd (fieldAF 1 t3_6) fun t4_7 =>
bnd (loadF h 1 false t4_7) fun t5_8 =>
bnd (catF t5_8 (.int .i64 (.ofNat 2))) fun t6_9 =>
T144c1 t2_5 h t6_9 x0_1 call x1_3))
theorem r144 : sRun s144 = T144 := by kernel_rfl
theorem e144 (u : Nat → Value → Prop) : TOK Go.Proofs.Tryz.prog (cfg u [] []) 144 T144 := .inr ⟨s144, _, _, _, r144.symm, Go.Proofs.Tryz.func144, k144 u, n144⟩
noncomputable def T145c1 (t17_23 : GVal) (call : CallF) (x0_1 : GVal) (h_16 : GHeap) (x5_11 : GVal) : SRes :=
sIf t17_23 (
sBlk 1 (bnd2 (call 27 [x0_1, (.int .i64 (.ofNat 1))] h_16) fun t22_26 h_27 =>
bnd (buildSlF (.agg [(.int .i64 (.ofNat 0)), (.int .i64 (.ofNat 0)), (.str []), (.int .i64 (.ofNat 0)), .nils]) 5 1 [(0, t22_26)]) fun t23_28 =>
bnd2 (appendF h_27 5 64 true false x5_11 t23_28) fun t24_29 h_30 =>
some (SOut.normal [t24_29] h_30)) fun vs_24 h_25 =>
uncons vs_24 fun x5_31 vs_32 =>
unnil vs_32 (bnd2 (call 71 [x0_1, (.str [44])] h_25) fun t19_33 h_34 =>
some (SOut.normal [x5_31, t19_33] h_34))) (
some (SOut.exit 0 [x5_11] h_16))
noncomputable def T145c2 (x6_13 : GVal) (x0_1 : GVal) (h_10 : GHeap) (call : CallF) (x5_11 : GVal) : SRes :=
sJoin (gIf x6_13 true (
bnd (nilChkF x0_1) fun t13_17 =>
bnd (fieldAF 5 t13_17) fun t14_18 =>
bnd (loadF h_10 1 false t14_18) fun t15_19 =>
bnd (eqlF t15_19 (.int .i64 (.ofNat 0))) fun t16_20 =>
some (SOut.normal [t16_20] h_10)) (some (SOut.normal [gundef] h_10))) fun vs_15 h_16 =>
uncons vs_15 fun x16_21 vs_22 =>
unnil vs_22 (bnd (pickF x6_13 x16_21 (.bool false)) fun t17_23 =>
T145c1 t17_23 call x0_1 h_16 x5_11)
noncomputable def T145c3 (x0_1 : GVal) (call : CallF) (n : Nat) (h_6 : GHeap) (x1_3 : GVal) : SRes :=
sBlk 0 (sLoop (fun vs_9 h_10 =>
uncons vs_9 fun x5_11 vs_12 =>
uncons vs_12 fun x6_13 vs_14 =>
unnil vs_14 (T145c2 x6_13 x0_1 h_10 call x5_11)) n [.nils, (.bool true)] h_6) fun vs_7 h_8 =>
uncons vs_7 fun x5_35 vs_36 =>
unnil vs_36 (bnd2 (call 70 [x0_1, x1_3] h_8) fun _ h_38 =>
bnd2 (call 165 [x5_35] h_38) fun t29_39 h_40 =>
some (SOut.ret t29_39 h_40))
/--   ratline parse.parser .list -/
noncomputable def T145 : TFun := fun _ call n args h => sEnd (
uncons args fun x0_1 vs_2 =>
uncons vs_2 fun x1_3 vs_4 =>
unnil vs_4 (bnd2 (call 71 [x0_1, x1_3] h) fun t9_5 h_6 =>
sIf t9_5 (
some (SOut.ret .nils h_6)) (
T145c3 x0_1 call n h_6 x1_3)))
theorem r145 : sRun s145 = T145 := by kernel_rfl
theorem e145 (u : Nat → Value → Prop) : TOK Go.Proofs.Tryz.prog (cfg u [] []) 145 T145 := .inr ⟨s145, _, _, _, r145.symm, Go.Proofs.Tryz.func145, k145 u, n145⟩
noncomputable def T146c1 (t2_5 : GVal) (h : GHeap) (t6_9 : GVal) (x0_1 : GVal) (call : CallF) (x1_3 : GVal) : SRes :=
bnd (nilChkF t2_5) fun t7_10 =>
bnd (fieldAF 1 t7_10) fun t8_11 =>
bnd2 (storeF h 1 t8_11 t6_9) fun _ h_13 =>
bnd (loadF h_13 1 false x0_1) fun t9_14 =>
bnd2 (call 145 [t9_14, (.str [93])] h_13) fun t10_15 h_16 =>
bnd (fieldAF 4 x1_3) fun t11_17 =>
bnd2 (storeF h_16 1 t11_17 t10_15) fun _ h_19 =>
some (SOut.ret (.tuple []) h_19)
/--   ratline parse.parser .other$1 -/
noncomputable def T146 : TFun := fun _ call _ args h => sEnd (
uncons args fun x0_1 vs_2 =>
uncons vs_2 fun x1_3 vs_4 =>
unnil vs_4 (bnd (loadF h 1 false x0_1) fun t2_5 =>
bnd (nilChkF t2_5) fun t3_6 =>
bnd (fieldAF 1 t3_6) fun t4_7 =>
bnd (loadF h 1 false t4_7) fun t5_8 =>
bnd (catF t5_8 (.int .i64 (.ofNat 1))) fun t6_9 =>
T146c1 t2_5 h t6_9 x0_1 call x1_3))
theorem r146 : sRun s146 = T146 := by kernel_rfl
theorem e146 (u : Nat → Value → Prop) : TOK Go.Proofs.Tryz.prog (cfg u [] []) 146 T146 := .inr ⟨s146, _, _, _, r146.symm, Go.Proofs.Tryz.func146, k146 u, n146⟩
noncomputable def T147c1 (t7_10 : GVal) (h : GHeap) (t6_9 : GVal) (x0_1 : GVal) (call : CallF) (x1_3 : GVal) : SRes :=
bnd (fieldAF 1 t7_10) fun t8_11 =>
bnd2 (storeF h 1 t8_11 t6_9) fun _ h_13 =>
bnd (loadF h_13 1 false x0_1) fun t9_14 =>
bnd2 (call 27 [t9_14, (.int .i64 (.ofNat 1))] h_13) fun t10_15 h_16 =>
bnd2 (storeF h_16 5 x1_3 t10_15) fun _ h_18 =>
bnd (loadF h_18 1 false x0_1) fun t11_19 =>
bnd2 (call 70 [t11_19, (.str [41])] h_18) fun _ h_21 =>
some (SOut.ret (.tuple []) h_21)
/--   ratline parse.parser .other$2 -/
noncomputable def T147 : TFun := fun _ call _ args h => sEnd (
uncons args fun x0_1 vs_2 =>
uncons vs_2 fun x1_3 vs_4 =>
unnil vs_4 (bnd (loadF h 1 false x0_1) fun t2_5 =>
bnd (nilChkF t2_5) fun t3_6 =>
bnd (fieldAF 1 t3_6) fun t4_7 =>
bnd (loadF h 1 false t4_7) fun t5_8 =>
bnd (catF t5_8 (.int .i64 (.ofNat 1))) fun t6_9 =>
bnd (nilChkF t2_5) fun t7_10 =>
T147c1 t7_10 h t6_9 x0_1 call x1_3))
theorem r147 : sRun s147 = T147 := by kernel_rfl
theorem e147 (u : Nat → Value → Prop) : TOK Go.Proofs.Tryz.prog (cfg u [] []) 147 T147 := .inr ⟨s147, _, _, _, r147.symm, Go.Proofs.Tryz.func147, k147 u, n147⟩
noncomputable def T161c1 (t18_12 : GVal) (x0_1 : GVal) (h : GHeap) (t16_9 : GVal) : SRes :=
sIf t18_12 (
bnd (sliceStrF x0_1 (some (.int .i64 (.ofNat 1))) none) fun t20_13 =>
some (SOut.normal [t20_13, (.bool false)] h)) (
bnd (eqlF t16_9 (.int .u8 (.ofNat 45))) fun t22_14 =>
sIf t22_14 (
bnd (sliceStrF x0_1 (some (.int .i64 (.ofNat 1))) none) fun t24_15 =>
some (SOut.normal [t24_15, (.bool true)] h)) (
some (SOut.normal [x0_1, (.bool false)] h)))
noncomputable def T161c2 (t62_55 : GVal) (t45_39 : GVal) (h_51 : GHeap) (t30_22 : GVal) (x8_18 : GVal) : SRes :=
sIf t62_55 (
bnd (gConv (.int .i64) t45_39) fun t64_56 =>
bnd (unF .neg t64_56) fun t65_57 =>
bnd (some (GVal.iface 203 (.int .i64 (.ofNat 1)))) fun t66_58 =>
some (SOut.ret (.tuple [t65_57, t66_58]) h_51)) (
bnd (gConv (.int .i64) t30_22) fun t68_59 =>
sJoin (sIf x8_18 (
bnd (unF .neg t68_59) fun t71_62 =>
some (SOut.normal [t71_62] h_51)) (
some (SOut.normal [t68_59] h_51))) fun vs_60 h_61 =>
uncons vs_60 fun x11_63 vs_64 =>
unnil vs_64 (some (SOut.ret (.tuple [x11_63, .nilIface]) h_61)))
noncomputable def T161c3 (t52_46 : GVal) (t45_39 : GVal) (h_42 : GHeap) (x8_18 : GVal) (t30_22 : GVal) : SRes :=
sIf t52_46 (
bnd (gBin .sub t45_39 (.int .u64 (.ofNat 1))) fun t54_47 =>
bnd (gConv (.int .i64) t54_47) fun t55_48 =>
bnd (some (GVal.iface 203 (.int .i64 (.ofNat 1)))) fun t56_49 =>
some (SOut.ret (.tuple [t55_48, t56_49]) h_42)) (
sJoin (gIf x8_18 true (
bnd (gtrF t30_22 t45_39) fun t61_52 =>
some (SOut.normal [t61_52] h_42)) (some (SOut.normal [gundef] h_42))) fun vs_50 h_51 =>
uncons vs_50 fun x61_53 vs_54 =>
unnil vs_54 (bnd (pickF x8_18 x61_53 (.bool false)) fun t62_55 =>
T161c2 t62_55 t45_39 h_51 t30_22 x8_18))
noncomputable def T161c4 (t44_38 : GVal) (x8_18 : GVal) (t30_22 : GVal) (h_33 : GHeap) : SRes :=
bnd (gBin .shl (.int .u64 (.ofNat 1)) t44_38) fun t45_39 =>
bnd (unF .not x8_18) fun t47_40 =>
sJoin (gIf t47_40 true (
bnd (geqF t30_22 t45_39) fun t51_43 =>
some (SOut.normal [t51_43] h_33)) (some (SOut.normal [gundef] h_33))) fun vs_41 h_42 =>
uncons vs_41 fun x51_44 vs_45 =>
unnil vs_45 (bnd (pickF t47_40 x51_44 (.bool false)) fun t52_46 =>
T161c3 t52_46 t45_39 h_42 x8_18 t30_22)
noncomputable def T161c5 (x2_5 : GVal) (h_26 : GHeap) (x8_18 : GVal) (t30_22 : GVal) : SRes :=
sJoin (bnd (eqlF x2_5 (.int .i64 (.ofNat 0))) fun t41_34 =>
sIf t41_34 (
some (SOut.normal [(.int .i64 (.ofNat 64))] h_26)) (
some (SOut.normal [x2_5] h_26))) fun vs_32 h_33 =>
uncons vs_32 fun x2_35 vs_36 =>
unnil vs_36 (bnd (gBin .sub x2_35 (.int .i64 (.ofNat 1))) fun t43_37 =>
bnd (gConv (.int .u64) t43_37) fun t44_38 =>
T161c4 t44_38 x8_18 t30_22 h_33)
noncomputable def T161c6 (t33_24 : GVal) (t31_23 : GVal) (h_21 : GHeap) (x2_5 : GVal) (x8_18 : GVal) (t30_22 : GVal) : SRes :=
sJoin (gIf t33_24 true (
bnd (some (GVal.iface 203 (.int .i64 (.ofNat 1)))) fun t36_27 =>
bnd (eqV true (.ifaceV [2, 3, 5, 6, 12, 21, 29, 138, 148, 171, 203, 236, 271, 272, 274, 275]) t31_23 t36_27) fun t37_28 =>
some (SOut.normal [t37_28] h_21)) (some (SOut.normal [gundef] h_21))) fun vs_25 h_26 =>
uncons vs_25 fun x37_29 vs_30 =>
unnil vs_30 (bnd (pickF t33_24 x37_29 (.bool false)) fun t38_31 =>
sIf t38_31 (
some (SOut.ret (.tuple [(.int .i64 (.ofNat 0)), t31_23]) h_26)) (
T161c5 x2_5 h_26 x8_18 t30_22))
noncomputable def T161c7 (t16_9 : GVal) (x0_1 : GVal) (h : GHeap) (call : CallF) (x1_3 : GVal) (x2_5 : GVal) : SRes :=
sBlk 0 (bnd (eqlF t16_9 (.int .u8 (.ofNat 43))) fun t18_12 =>
T161c1 t18_12 x0_1 h t16_9) fun vs_10 h_11 =>
uncons vs_10 fun x0_16 vs_17 =>
uncons vs_17 fun x8_18 vs_19 =>
unnil vs_19 (bnd2 (call 179 [x0_16, x1_3, x2_5] h_11) fun t29_20 h_21 =>
bnd (extrF 0 t29_20) fun t30_22 =>
bnd (extrF 1 t29_20) fun t31_23 =>
bnd (eqV true .iface t31_23 .nilIface) fun t33_24 =>
T161c6 t33_24 t31_23 h_21 x2_5 x8_18 t30_22)
/-- internal strconv.ParseInt -/
noncomputable def T161 : TFun := fun _ call _ args h => sEnd (
uncons args fun x0_1 vs_2 =>
uncons vs_2 fun x1_3 vs_4 =>
uncons vs_4 fun x2_5 vs_6 =>
unnil vs_6 (bnd (eqlF x0_1 (.str [])) fun t13_7 =>
sIf t13_7 (
bnd (some (GVal.iface 203 (.int .i64 (.ofNat 2)))) fun t14_8 =>
some (SOut.ret (.tuple [(.int .i64 (.ofNat 0)), t14_8]) h)) (
bnd (ixStrF x0_1 (.int .i64 (.ofNat 0))) fun t16_9 =>
T161c7 t16_9 x0_1 h call x1_3 x2_5)))
theorem r161 : sRun s161 = T161 := by kernel_rfl
theorem e161 (u : Nat → Value → Prop) : TOK Go.Proofs.Tryz.prog (cfg u [] []) 161 T161 := .inr ⟨s161, _, _, _, r161.symm, Go.Proofs.Tryz.func161, k161 u, n161⟩
noncomputable def T163c1 (t9_7 : GVal) (x1_3 : GVal) (x0_1 : GVal) (h : GHeap) : SRes :=
sJoin (gIf t9_7 true (
bnd (lenF true x1_3) fun t13_10 =>
bnd (sliceStrF x0_1 none (some t13_10)) fun t14_11 =>
bnd (eqlF t14_11 x1_3) fun t16_12 =>
some (SOut.normal [t16_12] h)) (some (SOut.normal [gundef] h))) fun vs_8 h_9 =>
uncons vs_8 fun x16_13 vs_14 =>
unnil vs_14 (bnd (pickF t9_7 x16_13 (.bool false)) fun t17_15 =>
some (SOut.ret t17_15 h_9))
/-- internal stringslite.HasPrefix -/
noncomputable def T163 : TFun := fun _ _ _ args h => sEnd (
uncons args fun x0_1 vs_2 =>
uncons vs_2 fun x1_3 vs_4 =>
unnil vs_4 (bnd (lenF true x0_1) fun t6_5 =>
bnd (lenF true x1_3) fun t8_6 =>
bnd (geqF t6_5 t8_6) fun t9_7 =>
T163c1 t9_7 x1_3 x0_1 h))
theorem r163 : sRun s163 = T163 := by kernel_rfl
theorem e163 (u : Nat → Value → Prop) : TOK Go.Proofs.Tryz.prog (cfg u [] []) 163 T163 := .inr ⟨s163, _, _, _, r163.symm, Go.Proofs.Tryz.func163, k163 u, n163⟩
/-- internal stringslite.IndexByte -/
noncomputable def T164 : TFun := fun _ call _ args h => sEnd (
uncons args fun x0_1 vs_2 =>
uncons vs_2 fun x1_3 vs_4 =>
unnil vs_4 (bnd2 (call 184 [x0_1, x1_3] h) fun t7_5 h_6 =>
some (SOut.ret t7_5 h_6)))
theorem r164 : sRun s164 = T164 := by kernel_rfl
theorem e164 (u : Nat → Value → Prop) : TOK Go.Proofs.Tryz.prog (cfg u [] []) 164 T164 := .inr ⟨s164, _, _, _, r164.symm, Go.Proofs.Tryz.func164, k164 u, n164⟩
/-- slices.Clip   ratline api.Node ratline api.Node  -/
noncomputable def T165 : TFun := fun _ _ _ args h => sEnd (
uncons args fun x0_1 vs_2 =>
unnil vs_2 (bnd (lenF false x0_1) fun t5_3 =>
bnd (lenF false x0_1) fun t7_4 =>
bnd (sliceSlV 5 x0_1 none (some t5_3) (some t7_4)) fun t8_5 =>
some (SOut.ret t8_5 h)))
theorem r165 : sRun s165 = T165 := by kernel_rfl
theorem e165 (u : Nat → Value → Prop) : TOK Go.Proofs.Tryz.prog (cfg u [] []) 165 T165 := .inr ⟨s165, _, _, _, r165.symm, Go.Proofs.Tryz.func165, k165 u, n165⟩
noncomputable def T179c1 (t67_49 : GVal) (x0_1 : GVal) (call : CallF) (h_39 : GHeap) : SRes :=
sJoin (gIf t67_49 true (
bnd (ixStrF x0_1 (.int .i64 (.ofNat 1))) fun t70_52 =>
bnd2 (call 199 [t70_52] h_39) fun t71_53 h_54 =>
bnd (eqlF t71_53 (.int .u8 (.ofNat 120))) fun t72_55 =>
some (SOut.normal [t72_55] h_54)) (some (SOut.normal [gundef] h_39))) fun vs_50 h_51 =>
uncons vs_50 fun x72_56 vs_57 =>
unnil vs_57 (bnd (pickF t67_49 x72_56 (.bool false)) fun t73_58 =>
sIf t73_58 (
bnd (sliceStrF x0_1 (some (.int .i64 (.ofNat 2))) none) fun t75_59 =>
some (SOut.normal [t75_59, (.int .i64 (.ofNat 16))] h_51)) (
bnd (sliceStrF x0_1 (some (.int .i64 (.ofNat 1))) none) fun t39_60 =>
some (SOut.normal [t39_60, (.int .i64 (.ofNat 8))] h_51)))
noncomputable def T179c2 (vs_38 : List GVal) (t55_37 : GVal) (x0_1 : GVal) (h_39 : GHeap) (call : CallF) : SRes :=
uncons vs_38 fun x60_44 vs_45 =>
unnil vs_45 (bnd (pickF t55_37 x60_44 (.bool false)) fun t61_46 =>
sIf t61_46 (
bnd (sliceStrF x0_1 (some (.int .i64 (.ofNat 2))) none) fun t63_47 =>
some (SOut.normal [t63_47, (.int .i64 (.ofNat 8))] h_39)) (
bnd (lenF true x0_1) fun t66_48 =>
bnd (geqF t66_48 (.int .i64 (.ofNat 3))) fun t67_49 =>
T179c1 t67_49 x0_1 call h_39))
noncomputable def T179c3 (x0_1 : GVal) (call : CallF) (h_27 : GHeap) : SRes :=
bnd (lenF true x0_1) fun t54_36 =>
bnd (geqF t54_36 (.int .i64 (.ofNat 3))) fun t55_37 =>
sJoin (gIf t55_37 true (
bnd (ixStrF x0_1 (.int .i64 (.ofNat 1))) fun t58_40 =>
bnd2 (call 199 [t58_40] h_27) fun t59_41 h_42 =>
bnd (eqlF t59_41 (.int .u8 (.ofNat 111))) fun t60_43 =>
some (SOut.normal [t60_43] h_42)) (some (SOut.normal [gundef] h_27))) fun vs_38 h_39 =>
T179c2 vs_38 t55_37 x0_1 h_39 call
noncomputable def T179c4 (t43_25 : GVal) (x0_1 : GVal) (call : CallF) (h_14 : GHeap) : SRes :=
sJoin (gIf t43_25 true (
bnd (ixStrF x0_1 (.int .i64 (.ofNat 1))) fun t46_28 =>
bnd2 (call 199 [t46_28] h_14) fun t47_29 h_30 =>
bnd (eqlF t47_29 (.int .u8 (.ofNat 98))) fun t48_31 =>
some (SOut.normal [t48_31] h_30)) (some (SOut.normal [gundef] h_14))) fun vs_26 h_27 =>
uncons vs_26 fun x48_32 vs_33 =>
unnil vs_33 (bnd (pickF t43_25 x48_32 (.bool false)) fun t49_34 =>
sIf t49_34 (
bnd (sliceStrF x0_1 (some (.int .i64 (.ofNat 2))) none) fun t51_35 =>
some (SOut.normal [t51_35, (.int .i64 (.ofNat 2))] h_27)) (
T179c3 x0_1 call h_27))
noncomputable def T179c5 (t37_21 : GVal) (x0_1 : GVal) (call : CallF) (h_14 : GHeap) : SRes :=
sIf t37_21 (
sBlk 1 (bnd (lenF true x0_1) fun t42_24 =>
bnd (geqF t42_24 (.int .i64 (.ofNat 3))) fun t43_25 =>
T179c4 t43_25 x0_1 call h_14) fun vs_22 h_23 =>
uncons vs_22 fun x0_61 vs_62 =>
uncons vs_62 fun x1_63 vs_64 =>
unnil vs_64 (some (SOut.normal [x0_61, x1_63] h_23))) (
some (SOut.normal [x0_1, (.int .i64 (.ofNat 10))] h_14))
noncomputable def T179c6 (t31_18 : GVal) (x0_1 : GVal) (x1_3 : GVal) (h_14 : GHeap) (call : CallF) : SRes :=
sIf t31_18 (
some (SOut.normal [x0_1, x1_3] h_14)) (
bnd (eqlF x1_3 (.int .i64 (.ofNat 0))) fun t34_19 =>
sIf t34_19 (
bnd (ixStrF x0_1 (.int .i64 (.ofNat 0))) fun t36_20 =>
bnd (eqlF t36_20 (.int .u8 (.ofNat 48))) fun t37_21 =>
T179c5 t37_21 x0_1 call h_14) (
bnd (some (GVal.iface 203 (.int .i64 (.ofNat 3)))) fun t24_65 =>
some (SOut.ret (.tuple [(.int .u64 (.ofNat 0)), t24_65]) h_14)))
noncomputable def T179c7 (t79_73 : GVal) (x2_5 : GVal) (h_11 : GHeap) : SRes :=
sJoin (gIf t79_73 false (
bnd (gtrF x2_5 (.int .i64 (.ofNat 64))) fun t82_76 =>
some (SOut.normal [t82_76] h_11)) (some (SOut.normal [gundef] h_11))) fun vs_74 h_75 =>
uncons vs_74 fun x82_77 vs_78 =>
unnil vs_78 (bnd (pickF t79_73 (.bool true) x82_77) fun t83_79 =>
sIf t83_79 (
bnd (some (GVal.iface 203 (.int .i64 (.ofNat 4)))) fun t84_80 =>
some (SOut.ret (.tuple [(.int .u64 (.ofNat 0)), t84_80]) h_75)) (
some (SOut.normal [x2_5] h_75)))
noncomputable def T179c8 (t91_85 : GVal) (h_71 : GHeap) (x1_68 : GVal) : SRes :=
sIf t91_85 (
some (SOut.normal [(.int .u64 (.ofNat 1844674407370955162))] h_71)) (
bnd (eqlF x1_68 (.int .i64 (.ofNat 16))) fun t93_86 =>
sIf t93_86 (
some (SOut.normal [(.int .u64 (.ofNat 1152921504606846976))] h_71)) (
bnd (gConv (.int .u64) x1_68) fun t87_87 =>
bnd (gBin .quo (.int .u64 (.ofNat 18446744073709551615)) t87_87) fun t88_88 =>
bnd (catF t88_88 (.int .u64 (.ofNat 1))) fun t89_89 =>
some (SOut.normal [t89_89] h_71)))
noncomputable def T179c9 (t124_128 : GVal) (x128_134 : GVal) (call : CallF) (t104_111 : GVal) (h_130 : GHeap) (x12_101 : GVal) : SRes :=
bnd (pickF t124_128 x128_134 (.bool false)) fun t129_136 =>
sIf t129_136 (
bnd2 (call 199 [t104_111] h_130) fun t131_137 h_138 =>
bnd (gBin .sub t131_137 (.int .u8 (.ofNat 97))) fun t132_139 =>
bnd (catF t132_139 (.int .u8 (.ofNat 10))) fun t133_140 =>
some (SOut.normal [x12_101, t133_140] h_138)) (
bnd (some (GVal.iface 203 (.int .i64 (.ofNat 2)))) fun t105_141 =>
some (SOut.ret (.tuple [(.int .u64 (.ofNat 0)), t105_141]) h_130))
noncomputable def T179c10 (call : CallF) (t104_111 : GVal) (h_120 : GHeap) (x12_101 : GVal) : SRes :=
bnd2 (call 199 [t104_111] h_120) fun t123_126 h_127 =>
bnd (leqF (.int .u8 (.ofNat 97)) t123_126) fun t124_128 =>
sJoin (gIf t124_128 true (
bnd2 (call 199 [t104_111] h_127) fun t127_131 h_132 =>
bnd (leqF t127_131 (.int .u8 (.ofNat 122))) fun t128_133 =>
some (SOut.normal [t128_133] h_132)) (some (SOut.normal [gundef] h_127))) fun vs_129 h_130 =>
uncons vs_129 fun x128_134 vs_135 =>
unnil vs_135 (T179c9 t124_128 x128_134 call t104_111 h_130 x12_101)
noncomputable def T179c11 (t114_118 : GVal) (t104_111 : GVal) (h_116 : GHeap) (x12_101 : GVal) (call : CallF) : SRes :=
sJoin (gIf t114_118 true (
bnd (leqF t104_111 (.int .u8 (.ofNat 57))) fun t117_121 =>
some (SOut.normal [t117_121] h_116)) (some (SOut.normal [gundef] h_116))) fun vs_119 h_120 =>
uncons vs_119 fun x117_122 vs_123 =>
unnil vs_123 (bnd (pickF t114_118 x117_122 (.bool false)) fun t118_124 =>
sIf t118_124 (
bnd (gBin .sub t104_111 (.int .u8 (.ofNat 48))) fun t120_125 =>
some (SOut.normal [x12_101, t120_125] h_120)) (
T179c10 call t104_111 h_120 x12_101))
noncomputable def T179c12 (t154_155 : GVal) (t151_154 : GVal) (t97_94 : GVal) (h_113 : GHeap) (x12_142 : GVal) : SRes :=
sJoin (gIf t154_155 false (
bnd (gtrF t151_154 t97_94) fun t158_158 =>
some (SOut.normal [t158_158] h_113)) (some (SOut.normal [gundef] h_113))) fun vs_156 h_157 =>
uncons vs_156 fun x158_159 vs_160 =>
unnil vs_160 (bnd (pickF t154_155 (.bool true) x158_159) fun t159_161 =>
sIf t159_161 (
bnd (some (GVal.iface 203 (.int .i64 (.ofNat 1)))) fun t161_162 =>
some (SOut.ret (.tuple [t97_94, t161_162]) h_157)) (
some (SOut.normal [x12_142, t151_154] h_157)))
noncomputable def T179c13 (t141_149 : GVal) (t97_94 : GVal) (h_113 : GHeap) (x1_68 : GVal) (x13_103 : GVal) (x16_144 : GVal) (x12_142 : GVal) : SRes :=
sIf t141_149 (
bnd (some (GVal.iface 203 (.int .i64 (.ofNat 1)))) fun t143_150 =>
some (SOut.ret (.tuple [t97_94, t143_150]) h_113)) (
bnd (gConv (.int .u64) x1_68) fun t146_151 =>
bnd (gBin .mul x13_103 t146_151) fun t147_152 =>
bnd (gConv (.int .u64) x16_144) fun t150_153 =>
bnd (catF t147_152 t150_153) fun t151_154 =>
bnd (lssF t151_154 t147_152) fun t154_155 =>
T179c12 t154_155 t151_154 t97_94 h_113 x12_142)
noncomputable def T179c14 (vs_112 : List GVal) (x1_68 : GVal) (h_113 : GHeap) (x13_103 : GVal) (x10_90 : GVal) (t97_94 : GVal) : SRes :=
uncons vs_112 fun x12_142 vs_143 =>
uncons vs_143 fun x16_144 vs_145 =>
unnil vs_145 (bnd (gConv (.int .u8) x1_68) fun t136_146 =>
bnd (geqF x16_144 t136_146) fun t137_147 =>
sIf t137_147 (
bnd (some (GVal.iface 203 (.int .i64 (.ofNat 2)))) fun t138_148 =>
some (SOut.ret (.tuple [(.int .u64 (.ofNat 0)), t138_148]) h_113)) (
bnd (geqF x13_103 x10_90) fun t141_149 =>
T179c13 t141_149 t97_94 h_113 x1_68 x13_103 x16_144 x12_142))
noncomputable def T179c15 (t104_111 : GVal) (t22_9 : GVal) (h_100 : GHeap) (x13_103 : GVal) (x12_101 : GVal) (call : CallF) (x1_68 : GVal) (x10_90 : GVal) (t97_94 : GVal) : SRes :=
sBlk 5 (bnd (eqlF t104_111 (.int .u8 (.ofNat 95))) fun t108_114 =>
bnd2 (gdo t108_114 true (pv (some (t22_9)) h_100) (some (gundef, h_100))) fun t110_115 h_116 =>
bnd (pickF t108_114 t110_115 (.bool false)) fun t111_117 =>
sIf t111_117 (
some (SOut.exit 4 [(.bool true), x13_103] h_116)) (
bnd (leqF (.int .u8 (.ofNat 48)) t104_111) fun t114_118 =>
T179c11 t114_118 t104_111 h_116 x12_101 call)) fun vs_112 h_113 =>
T179c14 vs_112 x1_68 h_113 x13_103 x10_90 t97_94
noncomputable def T179c16 (t102_107 : GVal) (t99_95 : GVal) (x101_105 : GVal) (h_100 : GHeap) (t22_9 : GVal) (x13_103 : GVal) (x12_101 : GVal) (call : CallF) (x1_68 : GVal) (x10_90 : GVal) (t97_94 : GVal) : SRes :=
sIf t102_107 (
sBlk 4 (bnd (ixSF 1 t99_95 x101_105) fun t103_110 =>
bnd (loadF h_100 1 false t103_110) fun t104_111 =>
T179c15 t104_111 t22_9 h_100 x13_103 x12_101 call x1_68 x10_90 t97_94) fun vs_108 h_109 =>
uncons vs_108 fun x12_163 vs_164 =>
uncons vs_164 fun x13_165 vs_166 =>
unnil vs_166 (bnd (catF x101_105 (.int .i64 (.ofNat 1))) fun t163_167 =>
some (SOut.normal [x12_163, x13_165, t163_167] h_109))) (
some (SOut.exit 3 [x12_101, x13_103] h_100))
noncomputable def T179c17 (x12_168 : GVal) (call : CallF) (x0_1 : GVal) (h_98 : GHeap) (x13_170 : GVal) : SRes :=
sJoin (gIf x12_168 true (
bnd2 (call 200 [x0_1] h_98) fun t167_174 h_175 =>
bnd (unF .not t167_174) fun t168_176 =>
some (SOut.normal [t168_176] h_175)) (some (SOut.normal [gundef] h_98))) fun vs_172 h_173 =>
uncons vs_172 fun x168_177 vs_178 =>
unnil vs_178 (bnd (pickF x12_168 x168_177 (.bool false)) fun t169_179 =>
sIf t169_179 (
bnd (some (GVal.iface 203 (.int .i64 (.ofNat 2)))) fun t170_180 =>
some (SOut.ret (.tuple [(.int .u64 (.ofNat 0)), t170_180]) h_173)) (
some (SOut.ret (.tuple [x13_170, .nilIface]) h_173)))
noncomputable def T179c18 (t100_96 : GVal) (t99_95 : GVal) (t22_9 : GVal) (call : CallF) (x1_68 : GVal) (x10_90 : GVal) (t97_94 : GVal) (n : Nat) (h_84 : GHeap) (x0_1 : GVal) : SRes :=
sBlk 3 (sLoop (fun vs_99 h_100 =>
uncons vs_99 fun x12_101 vs_102 =>
uncons vs_102 fun x13_103 vs_104 =>
uncons vs_104 fun x101_105 vs_106 =>
unnil vs_106 (bnd (lssF x101_105 t100_96) fun t102_107 =>
T179c16 t102_107 t99_95 x101_105 h_100 t22_9 x13_103 x12_101 call x1_68 x10_90 t97_94)) n [(.bool false), (.int .u64 (.ofNat 0)), (.int .i64 (.ofNat 0))] h_84) fun vs_97 h_98 =>
uncons vs_97 fun x12_168 vs_169 =>
uncons vs_169 fun x13_170 vs_171 =>
unnil vs_171 (T179c17 x12_168 call x0_1 h_98 x13_170)
noncomputable def T179c19 (x1_68 : GVal) (h_71 : GHeap) (x2_81 : GVal) (x0_66 : GVal) (t22_9 : GVal) (call : CallF) (n : Nat) (x0_1 : GVal) : SRes :=
sBlk 2 (bnd (eqlF x1_68 (.int .i64 (.ofNat 10))) fun t91_85 =>
T179c8 t91_85 h_71 x1_68) fun vs_83 h_84 =>
uncons vs_83 fun x10_90 vs_91 =>
unnil vs_91 (bnd (gConv (.int .u64) x2_81) fun t95_92 =>
bnd (gBin .shl (.int .u64 (.ofNat 1)) t95_92) fun t96_93 =>
bnd (gBin .sub t96_93 (.int .u64 (.ofNat 1))) fun t97_94 =>
bnd (gConv .toBytes x0_66) fun t99_95 =>
bnd (lenF false t99_95) fun t100_96 =>
T179c18 t100_96 t99_95 t22_9 call x1_68 x10_90 t97_94 n h_84 x0_1)
noncomputable def T179c20 (vs_10 : List GVal) (x2_5 : GVal) (h_11 : GHeap) (t22_9 : GVal) (call : CallF) (n : Nat) (x0_1 : GVal) : SRes :=
uncons vs_10 fun x0_66 vs_67 =>
uncons vs_67 fun x1_68 vs_69 =>
unnil vs_69 (sJoin (bnd (eqlF x2_5 (.int .i64 (.ofNat 0))) fun t77_72 =>
sIf t77_72 (
some (SOut.normal [(.int .i64 (.ofNat 64))] h_11)) (
bnd (lssF x2_5 (.int .i64 (.ofNat 0))) fun t79_73 =>
T179c7 t79_73 x2_5 h_11)) fun vs_70 h_71 =>
uncons vs_70 fun x2_81 vs_82 =>
unnil vs_82 (T179c19 x1_68 h_71 x2_81 x0_66 t22_9 call n x0_1))
noncomputable def T179c21 (x1_3 : GVal) (h : GHeap) (x0_1 : GVal) (call : CallF) (x2_5 : GVal) (t22_9 : GVal) (n : Nat) : SRes :=
sBlk 0 (bnd (leqF (.int .i64 (.ofNat 2)) x1_3) fun t27_12 =>
sJoin (gIf t27_12 true (
bnd (leqF x1_3 (.int .i64 (.ofNat 36))) fun t30_15 =>
some (SOut.normal [t30_15] h)) (some (SOut.normal [gundef] h))) fun vs_13 h_14 =>
uncons vs_13 fun x30_16 vs_17 =>
unnil vs_17 (bnd (pickF t27_12 x30_16 (.bool false)) fun t31_18 =>
T179c6 t31_18 x0_1 x1_3 h_14 call)) fun vs_10 h_11 =>
T179c20 vs_10 x2_5 h_11 t22_9 call n x0_1
/-- internal strconv.ParseUint -/
noncomputable def T179 : TFun := fun _ call n args h => sEnd (
uncons args fun x0_1 vs_2 =>
uncons vs_2 fun x1_3 vs_4 =>
uncons vs_4 fun x2_5 vs_6 =>
unnil vs_6 (bnd (eqlF x0_1 (.str [])) fun t19_7 =>
sIf t19_7 (
bnd (some (GVal.iface 203 (.int .i64 (.ofNat 2)))) fun t20_8 =>
some (SOut.ret (.tuple [(.int .u64 (.ofNat 0)), t20_8]) h)) (
bnd (eqlF x1_3 (.int .i64 (.ofNat 0))) fun t22_9 =>
T179c21 x1_3 h x0_1 call x2_5 t22_9 n)))
theorem r179 : sRun s179 = T179 := by kernel_rfl
theorem e179 (u : Nat → Value → Prop) : TOK Go.Proofs.Tryz.prog (cfg u [] []) 179 T179 := .inr ⟨s179, _, _, _, r179.symm, Go.Proofs.Tryz.func179, k179 u, n179⟩
/-- The table: the functions that are known by a rule, told by x, and the others. -/
noncomputable def tbl (x : Nat → TFun) : TTree := (.node 79 T79 (.node 35 T35 (.node 21 T21 (.node 13 T13 (.node 9 T9 (.node 7 T7 (.node 4 T4 .leaf .leaf) .leaf) (.node 12 T12 (.node 10 T10 .leaf .leaf) .leaf)) (.node 18 T18 (.node 16 T16 (.node 15 T15 .leaf .leaf) .leaf) (.node 20 T20 .leaf .leaf))) (.node 28 T28 (.node 26 T26 (.node 23 T23 (.node 22 (x 22) .leaf .leaf) .leaf) (.node 27 T27 .leaf .leaf)) (.node 33 T33 (.node 32 T32 (.node 31 T31 .leaf .leaf) .leaf) (.node 34 T34 .leaf .leaf)))) (.node 68 T68 (.node 53 T53 (.node 39 T39 (.node 37 T37 (.node 36 T36 .leaf .leaf) .leaf) (.node 44 T44 (.node 40 T40 .leaf .leaf) .leaf)) (.node 56 T56 (.node 55 T55 (.node 54 T54 .leaf .leaf) .leaf) (.node 57 T57 .leaf .leaf))) (.node 73 T73 (.node 71 T71 (.node 70 T70 (.node 69 T69 .leaf .leaf) .leaf) (.node 72 T72 .leaf .leaf)) (.node 77 T77 (.node 76 T76 (.node 75 T75 .leaf .leaf) .leaf) (.node 78 T78 .leaf .leaf))))) (.node 123 T123 (.node 102 T102 (.node 95 T95 (.node 92 T92 (.node 91 T91 (.node 90 T90 .leaf .leaf) .leaf) (.node 94 T94 (.node 93 T93 .leaf .leaf) .leaf)) (.node 100 T100 (.node 97 T97 (.node 96 T96 .leaf .leaf) .leaf) (.node 101 T101 .leaf .leaf))) (.node 116 T116 (.node 107 T107 (.node 106 T106 (.node 103 T103 .leaf .leaf) .leaf) (.node 115 T115 .leaf .leaf)) (.node 120 T120 (.node 119 T119 (.node 118 T118 .leaf .leaf) .leaf) (.node 121 T121 .leaf .leaf)))) (.node 145 T145 (.node 139 T139 (.node 127 T127 (.node 125 T125 (.node 124 T124 .leaf .leaf) .leaf) (.node 138 T138 (.node 129 T129 .leaf .leaf) .leaf)) (.node 143 T143 (.node 142 T142 (.node 140 T140 .leaf .leaf) .leaf) (.node 144 T144 .leaf .leaf))) (.node 163 T163 (.node 160 (x 160) (.node 147 T147 (.node 146 T146 .leaf .leaf) .leaf) (.node 161 T161 .leaf .leaf)) (.node 179 T179 (.node 165 T165 (.node 164 T164 .leaf .leaf) .leaf) (.node 184 (x 184) .leaf .leaf))))))
theorem tbl_all (u : Nat → Value → Prop) (x : Nat → TFun) (hx : ∀ f ∈ [22, 160, 184], TOK Go.Proofs.Tryz.prog (cfg u [] []) f (x f)) : (tbl x).All (TOK Go.Proofs.Tryz.prog (cfg u [] [])) :=
  ⟨e79 u, ⟨e35 u, ⟨e21 u, ⟨e13 u, ⟨e9 u, ⟨e7 u, ⟨e4 u, trivial, trivial⟩, trivial⟩, ⟨e12 u, ⟨e10 u, trivial, trivial⟩, trivial⟩⟩, ⟨e18 u, ⟨e16 u, ⟨e15 u, trivial, trivial⟩, trivial⟩, ⟨e20 u, trivial, trivial⟩⟩⟩, ⟨e28 u, ⟨e26 u, ⟨e23 u, ⟨hx 22 (by simp), trivial, trivial⟩, trivial⟩, ⟨e27 u, trivial, trivial⟩⟩, ⟨e33 u, ⟨e32 u, ⟨e31 u, trivial, trivial⟩, trivial⟩, ⟨e34 u, trivial, trivial⟩⟩⟩⟩, ⟨e68 u, ⟨e53 u, ⟨e39 u, ⟨e37 u, ⟨e36 u, trivial, trivial⟩, trivial⟩, ⟨e44 u, ⟨e40 u, trivial, trivial⟩, trivial⟩⟩, ⟨e56 u, ⟨e55 u, ⟨e54 u, trivial, trivial⟩, trivial⟩, ⟨e57 u, trivial, trivial⟩⟩⟩, ⟨e73 u, ⟨e71 u, ⟨e70 u, ⟨e69 u, trivial, trivial⟩, trivial⟩, ⟨e72 u, trivial, trivial⟩⟩, ⟨e77 u, ⟨e76 u, ⟨e75 u, trivial, trivial⟩, trivial⟩, ⟨e78 u, trivial, trivial⟩⟩⟩⟩⟩, ⟨e123 u, ⟨e102 u, ⟨e95 u, ⟨e92 u, ⟨e91 u, ⟨e90 u, trivial, trivial⟩, trivial⟩, ⟨e94 u, ⟨e93 u, trivial, trivial⟩, trivial⟩⟩, ⟨e100 u, ⟨e97 u, ⟨e96 u, trivial, trivial⟩, trivial⟩, ⟨e101 u, trivial, trivial⟩⟩⟩, ⟨e116 u, ⟨e107 u, ⟨e106 u, ⟨e103 u, trivial, trivial⟩, trivial⟩, ⟨e115 u, trivial, trivial⟩⟩, ⟨e120 u, ⟨e119 u, ⟨e118 u, trivial, trivial⟩, trivial⟩, ⟨e121 u, trivial, trivial⟩⟩⟩⟩, ⟨e145 u, ⟨e139 u, ⟨e127 u, ⟨e125 u, ⟨e124 u, trivial, trivial⟩, trivial⟩, ⟨e138 u, ⟨e129 u, trivial, trivial⟩, trivial⟩⟩, ⟨e143 u, ⟨e142 u, ⟨e140 u, trivial, trivial⟩, trivial⟩, ⟨e144 u, trivial, trivial⟩⟩⟩, ⟨e163 u, ⟨hx 160 (by simp), ⟨e147 u, ⟨e146 u, trivial, trivial⟩, trivial⟩, ⟨e161 u, trivial, trivial⟩⟩, ⟨e179 u, ⟨e165 u, ⟨e164 u, trivial, trivial⟩, trivial⟩, ⟨hx 184 (by simp), trivial, trivial⟩⟩⟩⟩⟩⟩
/-- The table: the functions that are known by a rule, told by x, and the others. -/
noncomputable def tbl1 (x : Nat → TFun) : TTree := (.node 79 T79 (.node 35 T35 (.node 21 T21 (.node 13 T13 (.node 9 T9 (.node 7 T7 (.node 4 T4 .leaf .leaf) .leaf) (.node 12 T12 (.node 10 T10 .leaf .leaf) .leaf)) (.node 18 T18 (.node 16 T16 (.node 15 T15 .leaf .leaf) .leaf) (.node 20 T20 .leaf .leaf))) (.node 28 T28 (.node 26 T26 (.node 23 T23 (.node 22 (x 22) .leaf .leaf) .leaf) (.node 27 T27 .leaf .leaf)) (.node 33 T33 (.node 32 T32 (.node 31 T31 .leaf .leaf) .leaf) (.node 34 T34 .leaf .leaf)))) (.node 68 T68 (.node 53 T53 (.node 39 T39 (.node 37 T37 (.node 36 T36 .leaf .leaf) .leaf) (.node 44 T44 (.node 40 T40 .leaf .leaf) .leaf)) (.node 56 T56 (.node 55 T55 (.node 54 T54 .leaf .leaf) .leaf) (.node 57 T57 .leaf .leaf))) (.node 73 T73 (.node 71 T71 (.node 70 T70 (.node 69 T69 .leaf .leaf) .leaf) (.node 72 T72 .leaf .leaf)) (.node 77 T77 (.node 76 T76 (.node 75 T75 .leaf .leaf) .leaf) (.node 78 T78 .leaf .leaf))))) (.node 123 T123 (.node 102 T102 (.node 95 T95 (.node 92 T92 (.node 91 (x 91) (.node 90 (x 90) .leaf .leaf) .leaf) (.node 94 T94 (.node 93 T93 .leaf .leaf) .leaf)) (.node 100 T100 (.node 97 T97 (.node 96 T96 .leaf .leaf) .leaf) (.node 101 T101 .leaf .leaf))) (.node 116 T116 (.node 107 T107 (.node 106 T106 (.node 103 T103 .leaf .leaf) .leaf) (.node 115 T115 .leaf .leaf)) (.node 120 T120 (.node 119 T119 (.node 118 T118 .leaf .leaf) .leaf) (.node 121 T121 .leaf .leaf)))) (.node 145 T145 (.node 139 T139 (.node 127 T127 (.node 125 T125 (.node 124 T124 .leaf .leaf) .leaf) (.node 138 T138 (.node 129 T129 .leaf .leaf) .leaf)) (.node 143 T143 (.node 142 T142 (.node 140 T140 .leaf .leaf) .leaf) (.node 144 T144 .leaf .leaf))) (.node 163 T163 (.node 160 (x 160) (.node 147 T147 (.node 146 T146 .leaf .leaf) .leaf) (.node 161 T161 .leaf .leaf)) (.node 179 T179 (.node 165 T165 (.node 164 T164 .leaf .leaf) .leaf) (.node 184 (x 184) .leaf .leaf))))))
theorem tbl1_all (u : Nat → Value → Prop) (x : Nat → TFun) (hx : ∀ f ∈ [22, 90, 91, 160, 184], TOK Go.Proofs.Tryz.prog (cfg u [] []) f (x f)) : (tbl1 x).All (TOK Go.Proofs.Tryz.prog (cfg u [] [])) :=
  ⟨e79 u, ⟨e35 u, ⟨e21 u, ⟨e13 u, ⟨e9 u, ⟨e7 u, ⟨e4 u, trivial, trivial⟩, trivial⟩, ⟨e12 u, ⟨e10 u, trivial, trivial⟩, trivial⟩⟩, ⟨e18 u, ⟨e16 u, ⟨e15 u, trivial, trivial⟩, trivial⟩, ⟨e20 u, trivial, trivial⟩⟩⟩, ⟨e28 u, ⟨e26 u, ⟨e23 u, ⟨hx 22 (by simp), trivial, trivial⟩, trivial⟩, ⟨e27 u, trivial, trivial⟩⟩, ⟨e33 u, ⟨e32 u, ⟨e31 u, trivial, trivial⟩, trivial⟩, ⟨e34 u, trivial, trivial⟩⟩⟩⟩, ⟨e68 u, ⟨e53 u, ⟨e39 u, ⟨e37 u, ⟨e36 u, trivial, trivial⟩, trivial⟩, ⟨e44 u, ⟨e40 u, trivial, trivial⟩, trivial⟩⟩, ⟨e56 u, ⟨e55 u, ⟨e54 u, trivial, trivial⟩, trivial⟩, ⟨e57 u, trivial, trivial⟩⟩⟩, ⟨e73 u, ⟨e71 u, ⟨e70 u, ⟨e69 u, trivial, trivial⟩, trivial⟩, ⟨e72 u, trivial, trivial⟩⟩, ⟨e77 u, ⟨e76 u, ⟨e75 u, trivial, trivial⟩, trivial⟩, ⟨e78 u, trivial, trivial⟩⟩⟩⟩⟩, ⟨e123 u, ⟨e102 u, ⟨e95 u, ⟨e92 u, ⟨hx 91 (by simp), ⟨hx 90 (by simp), trivial, trivial⟩, trivial⟩, ⟨e94 u, ⟨e93 u, trivial, trivial⟩, trivial⟩⟩, ⟨e100 u, ⟨e97 u, ⟨e96 u, trivial, trivial⟩, trivial⟩, ⟨e101 u, trivial, trivial⟩⟩⟩, ⟨e116 u, ⟨e107 u, ⟨e106 u, ⟨e103 u, trivial, trivial⟩, trivial⟩, ⟨e115 u, trivial, trivial⟩⟩, ⟨e120 u, ⟨e119 u, ⟨e118 u, trivial, trivial⟩, trivial⟩, ⟨e121 u, trivial, trivial⟩⟩⟩⟩, ⟨e145 u, ⟨e139 u, ⟨e127 u, ⟨e125 u, ⟨e124 u, trivial, trivial⟩, trivial⟩, ⟨e138 u, ⟨e129 u, trivial, trivial⟩, trivial⟩⟩, ⟨e143 u, ⟨e142 u, ⟨e140 u, trivial, trivial⟩, trivial⟩, ⟨e144 u, trivial, trivial⟩⟩⟩, ⟨e163 u, ⟨hx 160 (by simp), ⟨e147 u, ⟨e146 u, trivial, trivial⟩, trivial⟩, ⟨e161 u, trivial, trivial⟩⟩, ⟨e179 u, ⟨e165 u, ⟨e164 u, trivial, trivial⟩, trivial⟩, ⟨hx 184 (by simp), trivial, trivial⟩⟩⟩⟩⟩⟩
/-- The table: the functions that are known by a rule, told by x, and the others. -/
noncomputable def tbl2 (x : Nat → TFun) : TTree := (.node 79 T79 (.node 35 T35 (.node 21 T21 (.node 13 T13 (.node 9 T9 (.node 7 T7 (.node 4 T4 .leaf .leaf) .leaf) (.node 12 T12 (.node 10 T10 .leaf .leaf) .leaf)) (.node 18 T18 (.node 16 T16 (.node 15 T15 .leaf .leaf) .leaf) (.node 20 T20 .leaf .leaf))) (.node 28 T28 (.node 26 T26 (.node 23 T23 (.node 22 (x 22) .leaf .leaf) .leaf) (.node 27 T27 .leaf .leaf)) (.node 33 T33 (.node 32 T32 (.node 31 T31 .leaf .leaf) .leaf) (.node 34 T34 .leaf .leaf)))) (.node 68 T68 (.node 53 T53 (.node 39 T39 (.node 37 T37 (.node 36 T36 .leaf .leaf) .leaf) (.node 44 T44 (.node 40 T40 .leaf .leaf) .leaf)) (.node 56 T56 (.node 55 T55 (.node 54 T54 .leaf .leaf) .leaf) (.node 57 T57 .leaf .leaf))) (.node 73 T73 (.node 71 T71 (.node 70 T70 (.node 69 T69 .leaf .leaf) .leaf) (.node 72 T72 .leaf .leaf)) (.node 77 T77 (.node 76 T76 (.node 75 T75 .leaf .leaf) .leaf) (.node 78 T78 .leaf .leaf))))) (.node 123 T123 (.node 102 T102 (.node 95 T95 (.node 92 T92 (.node 91 (x 91) (.node 90 (x 90) .leaf .leaf) .leaf) (.node 94 T94 (.node 93 (x 93) .leaf .leaf) .leaf)) (.node 100 T100 (.node 97 T97 (.node 96 T96 .leaf .leaf) .leaf) (.node 101 T101 .leaf .leaf))) (.node 116 T116 (.node 107 T107 (.node 106 T106 (.node 103 T103 .leaf .leaf) .leaf) (.node 115 T115 .leaf .leaf)) (.node 120 T120 (.node 119 T119 (.node 118 T118 .leaf .leaf) .leaf) (.node 121 T121 .leaf .leaf)))) (.node 145 T145 (.node 139 T139 (.node 127 T127 (.node 125 T125 (.node 124 T124 .leaf .leaf) .leaf) (.node 138 T138 (.node 129 T129 .leaf .leaf) .leaf)) (.node 143 T143 (.node 142 T142 (.node 140 T140 .leaf .leaf) .leaf) (.node 144 T144 .leaf .leaf))) (.node 163 T163 (.node 160 (x 160) (.node 147 T147 (.node 146 T146 .leaf .leaf) .leaf) (.node 161 T161 .leaf .leaf)) (.node 179 T179 (.node 165 T165 (.node 164 T164 .leaf .leaf) .leaf) (.node 184 (x 184) .leaf .leaf))))))
theorem tbl2_all (u : Nat → Value → Prop) (x : Nat → TFun) (hx : ∀ f ∈ [22, 90, 91, 93, 160, 184], TOK Go.Proofs.Tryz.prog (cfg u [] []) f (x f)) : (tbl2 x).All (TOK Go.Proofs.Tryz.prog (cfg u [] [])) :=
  ⟨e79 u, ⟨e35 u, ⟨e21 u, ⟨e13 u, ⟨e9 u, ⟨e7 u, ⟨e4 u, trivial, trivial⟩, trivial⟩, ⟨e12 u, ⟨e10 u, trivial, trivial⟩, trivial⟩⟩, ⟨e18 u, ⟨e16 u, ⟨e15 u, trivial, trivial⟩, trivial⟩, ⟨e20 u, trivial, trivial⟩⟩⟩, ⟨e28 u, ⟨e26 u, ⟨e23 u, ⟨hx 22 (by simp), trivial, trivial⟩, trivial⟩, ⟨e27 u, trivial, trivial⟩⟩, ⟨e33 u, ⟨e32 u, ⟨e31 u, trivial, trivial⟩, trivial⟩, ⟨e34 u, trivial, trivial⟩⟩⟩⟩, ⟨e68 u, ⟨e53 u, ⟨e39 u, ⟨e37 u, ⟨e36 u, trivial, trivial⟩, trivial⟩, ⟨e44 u, ⟨e40 u, trivial, trivial⟩, trivial⟩⟩, ⟨e56 u, ⟨e55 u, ⟨e54 u, trivial, trivial⟩, trivial⟩, ⟨e57 u, trivial, trivial⟩⟩⟩, ⟨e73 u, ⟨e71 u, ⟨e70 u, ⟨e69 u, trivial, trivial⟩, trivial⟩, ⟨e72 u, trivial, trivial⟩⟩, ⟨e77 u, ⟨e76 u, ⟨e75 u, trivial, trivial⟩, trivial⟩, ⟨e78 u, trivial, trivial⟩⟩⟩⟩⟩, ⟨e123 u, ⟨e102 u, ⟨e95 u, ⟨e92 u, ⟨hx 91 (by simp), ⟨hx 90 (by simp), trivial, trivial⟩, trivial⟩, ⟨e94 u, ⟨hx 93 (by simp), trivial, trivial⟩, trivial⟩⟩, ⟨e100 u, ⟨e97 u, ⟨e96 u, trivial, trivial⟩, trivial⟩, ⟨e101 u, trivial, trivial⟩⟩⟩, ⟨e116 u, ⟨e107 u, ⟨e106 u, ⟨e103 u, trivial, trivial⟩, trivial⟩, ⟨e115 u, trivial, trivial⟩⟩, ⟨e120 u, ⟨e119 u, ⟨e118 u, trivial, trivial⟩, trivial⟩, ⟨e121 u, trivial, trivial⟩⟩⟩⟩, ⟨e145 u, ⟨e139 u, ⟨e127 u, ⟨e125 u, ⟨e124 u, trivial, trivial⟩, trivial⟩, ⟨e138 u, ⟨e129 u, trivial, trivial⟩, trivial⟩⟩, ⟨e143 u, ⟨e142 u, ⟨e140 u, trivial, trivial⟩, trivial⟩, ⟨e144 u, trivial, trivial⟩⟩⟩, ⟨e163 u, ⟨hx 160 (by simp), ⟨e147 u, ⟨e146 u, trivial, trivial⟩, trivial⟩, ⟨e161 u, trivial, trivial⟩⟩, ⟨e179 u, ⟨e165 u, ⟨e164 u, trivial, trivial⟩, trivial⟩, ⟨hx 184 (by simp), trivial, trivial⟩⟩⟩⟩⟩⟩
/-- The table: the functions that are known by a rule, told by x, and the others. -/
noncomputable def tbl3 (x : Nat → TFun) : TTree := (.node 79 T79 (.node 35 T35 (.node 21 T21 (.node 13 T13 (.node 9 (x 9) (.node 7 T7 (.node 4 T4 .leaf .leaf) .leaf) (.node 12 T12 (.node 10 T10 .leaf .leaf) .leaf)) (.node 18 T18 (.node 16 T16 (.node 15 T15 .leaf .leaf) .leaf) (.node 20 T20 .leaf .leaf))) (.node 28 T28 (.node 26 T26 (.node 23 T23 (.node 22 (x 22) .leaf .leaf) .leaf) (.node 27 T27 .leaf .leaf)) (.node 33 T33 (.node 32 T32 (.node 31 T31 .leaf .leaf) .leaf) (.node 34 T34 .leaf .leaf)))) (.node 68 T68 (.node 53 T53 (.node 39 T39 (.node 37 T37 (.node 36 T36 .leaf .leaf) .leaf) (.node 44 T44 (.node 40 T40 .leaf .leaf) .leaf)) (.node 56 T56 (.node 55 T55 (.node 54 T54 .leaf .leaf) .leaf) (.node 57 T57 .leaf .leaf))) (.node 73 T73 (.node 71 T71 (.node 70 T70 (.node 69 T69 .leaf .leaf) .leaf) (.node 72 T72 .leaf .leaf)) (.node 77 T77 (.node 76 T76 (.node 75 T75 .leaf .leaf) .leaf) (.node 78 T78 .leaf .leaf))))) (.node 123 T123 (.node 102 T102 (.node 95 T95 (.node 92 T92 (.node 91 (x 91) (.node 90 (x 90) .leaf .leaf) .leaf) (.node 94 T94 (.node 93 (x 93) .leaf .leaf) .leaf)) (.node 100 T100 (.node 97 T97 (.node 96 T96 .leaf .leaf) .leaf) (.node 101 T101 .leaf .leaf))) (.node 116 T116 (.node 107 T107 (.node 106 T106 (.node 103 T103 .leaf .leaf) .leaf) (.node 115 T115 .leaf .leaf)) (.node 120 T120 (.node 119 T119 (.node 118 T118 .leaf .leaf) .leaf) (.node 121 T121 .leaf .leaf)))) (.node 145 T145 (.node 139 T139 (.node 127 T127 (.node 125 T125 (.node 124 T124 .leaf .leaf) .leaf) (.node 138 T138 (.node 129 T129 .leaf .leaf) .leaf)) (.node 143 T143 (.node 142 T142 (.node 140 T140 .leaf .leaf) .leaf) (.node 144 T144 .leaf .leaf))) (.node 163 T163 (.node 160 (x 160) (.node 147 T147 (.node 146 T146 .leaf .leaf) .leaf) (.node 161 T161 .leaf .leaf)) (.node 179 T179 (.node 165 T165 (.node 164 T164 .leaf .leaf) .leaf) (.node 184 (x 184) .leaf .leaf))))))
theorem tbl3_all (u : Nat → Value → Prop) (x : Nat → TFun) (hx : ∀ f ∈ [9, 22, 90, 91, 93, 160, 184], TOK Go.Proofs.Tryz.prog (cfg u [] []) f (x f)) : (tbl3 x).All (TOK Go.Proofs.Tryz.prog (cfg u [] [])) :=
  ⟨e79 u, ⟨e35 u, ⟨e21 u, ⟨e13 u, ⟨hx 9 (by simp), ⟨e7 u, ⟨e4 u, trivial, trivial⟩, trivial⟩, ⟨e12 u, ⟨e10 u, trivial, trivial⟩, trivial⟩⟩, ⟨e18 u, ⟨e16 u, ⟨e15 u, trivial, trivial⟩, trivial⟩, ⟨e20 u, trivial, trivial⟩⟩⟩, ⟨e28 u, ⟨e26 u, ⟨e23 u, ⟨hx 22 (by simp), trivial, trivial⟩, trivial⟩, ⟨e27 u, trivial, trivial⟩⟩, ⟨e33 u, ⟨e32 u, ⟨e31 u, trivial, trivial⟩, trivial⟩, ⟨e34 u, trivial, trivial⟩⟩⟩⟩, ⟨e68 u, ⟨e53 u, ⟨e39 u, ⟨e37 u, ⟨e36 u, trivial, trivial⟩, trivial⟩, ⟨e44 u, ⟨e40 u, trivial, trivial⟩, trivial⟩⟩, ⟨e56 u, ⟨e55 u, ⟨e54 u, trivial, trivial⟩, trivial⟩, ⟨e57 u, trivial, trivial⟩⟩⟩, ⟨e73 u, ⟨e71 u, ⟨e70 u, ⟨e69 u, trivial, trivial⟩, trivial⟩, ⟨e72 u, trivial, trivial⟩⟩, ⟨e77 u, ⟨e76 u, ⟨e75 u, trivial, trivial⟩, trivial⟩, ⟨e78 u, trivial, trivial⟩⟩⟩⟩⟩, ⟨e123 u, ⟨e102 u, ⟨e95 u, ⟨e92 u, ⟨hx 91 (by simp), ⟨hx 90 (by simp), trivial, trivial⟩, trivial⟩, ⟨e94 u, ⟨hx 93 (by simp), trivial, trivial⟩, trivial⟩⟩, ⟨e100 u, ⟨e97 u, ⟨e96 u, trivial, trivial⟩, trivial⟩, ⟨e101 u, trivial, trivial⟩⟩⟩, ⟨e116 u, ⟨e107 u, ⟨e106 u, ⟨e103 u, trivial, trivial⟩, trivial⟩, ⟨e115 u, trivial, trivial⟩⟩, ⟨e120 u, ⟨e119 u, ⟨e118 u, trivial, trivial⟩, trivial⟩, ⟨e121 u, trivial, trivial⟩⟩⟩⟩, ⟨e145 u, ⟨e139 u, ⟨e127 u, ⟨e125 u, ⟨e124 u, trivial, trivial⟩, trivial⟩, ⟨e138 u, ⟨e129 u, trivial, trivial⟩, trivial⟩⟩, ⟨e143 u, ⟨e142 u, ⟨e140 u, trivial, trivial⟩, trivial⟩, ⟨e144 u, trivial, trivial⟩⟩⟩, ⟨e163 u, ⟨hx 160 (by simp), ⟨e147 u, ⟨e146 u, trivial, trivial⟩, trivial⟩, ⟨e161 u, trivial, trivial⟩⟩, ⟨e179 u, ⟨e165 u, ⟨e164 u, trivial, trivial⟩, trivial⟩, ⟨hx 184 (by simp), trivial, trivial⟩⟩⟩⟩⟩⟩
end Go.Gh.P
