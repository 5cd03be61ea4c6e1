/- Compiled code. -/
import Derived.Test.YtjoapkgigchboaaGb
import Derived.Test.YtjoapkgigchboaaGa
import Derived.Test.YtjoapkgigchboaaProg
import Derived.KernelRfl
set_option linter.unusedVariables false
set_option linter.unusedSimpArgs false
set_option linter.defProp false
namespace Go.Sx
open Go.Dx Go.Proofs
noncomputable section
def oa0_1 : List IS := [ip 0 (pMov (cv (.bool false)))]
@[simp] def oa0_1_ap := ops_rule (c := oa0_1) rfl
def oa0_2 : List IS := [im 3 13 (mCall 5 []),
  ip 14 (pUn .not (tg 13))]
@[simp] def oa0_2_ap := ops_rule (c := oa0_2) rfl
def oa0_3 : List IS := [ip 0 (pMov (cv (.bool false)))]
def ca0_1 : SC := sSeq (sReg (seqI oa0_3)) sRet
def ca0_2 : SC := sCond (tg 14) ca0_1 sSkip
@[simp] def ca0_2_ap := cond_rule (c := ca0_2) rfl
def ca0_3 : SC := sSeq (sReg (seqI oa0_2)) ca0_2
@[simp] def ca0_3_ap := seq_rule (c := ca0_3) rfl
def oa0_4 : List IS := [im 1 16 (mBslice 1 1 (rep 1 [(.int .u32 0)]) [(0, 1, (cv (.int .u32 335544320)))]),
  im 3 17 (mCall 6 [(tg 16)]),
  ip 15 (pMov (tg 17)),
  ip 18 (pExtract (tg 15) 0),
  ip 19 (pExtract (tg 15) 1),
  ip 1 (pMov (tg 18)),
  ip 2 (pMov (tg 19))]
@[simp] def oa0_4_ap := ops_rule (c := oa0_4) rfl
def oa0_5 : List IS := [ip 20 (pMov (tg 2)),
  ip 21 (pBin .neq (tg 20) (cv (.int .i64 0))),
  ip 22 (pMov (tg 21)),
  gd 22 false (some 23) (ip 23 (pMov (tg 1))),
  gd 22 false (some 24) (im 3 24 (mCall 7 [(tg 23)])),
  gd 22 false (some 25) (ip 25 (pField false 0 1 (tg 24))),
  gd 22 false (some 26) (ip 26 (pBin .neq (tg 25) (cv (.int .i64 6)))),
  ip 27 (pPick (tg 22) (cv (.bool true)) (tg 26)),
  ip 28 (pMov (tg 27)),
  gd 28 false (some 29) (ip 29 (pMov (tg 1))),
  gd 28 false (some 30) (im 3 30 (mCall 7 [(tg 29)])),
  gd 28 false (some 31) (ip 31 (pField false 0 1 (tg 30))),
  gd 28 false (some 32) (ip 32 (pBin .neq (tg 31) (cv (.int .i64 6)))),
  ip 33 (pPick (tg 28) (cv (.bool true)) (tg 32)),
  ip 34 (pMov (tg 33)),
  gd 34 false (some 35) (ip 35 (pMov (tg 1))),
  gd 34 false (some 36) (im 3 36 (mCall 8 [(tg 35), (cv (.int .u64 0))])),
  gd 34 false (some 37) (ip 37 (pBin .neq (tg 36) (cv (.int .i64 1)))),
  ip 38 (pPick (tg 34) (cv (.bool true)) (tg 37)),
  ip 39 (pMov (tg 38)),
  gd 39 false (some 40) (ip 40 (pMov (tg 1))),
  gd 39 false (some 41) (im 3 41 (mCall 9 [(tg 40)])),
  gd 39 false (some 42) (ip 42 (pField false 6 1 (tg 41))),
  gd 39 false (some 43) (ip 43 (pBin .neq (tg 42) (cv (.int .i64 4)))),
  ip 44 (pPick (tg 39) (cv (.bool true)) (tg 43))]
@[simp] def oa0_5_ap := ops_rule (c := oa0_5) rfl
def oa0_6 : List IS := [ip 0 (pMov (cv (.bool false)))]
def ca0_4 : SC := sSeq (sReg (seqI oa0_6)) sRet
def ca0_5 : SC := sCond (tg 44) ca0_4 sSkip
@[simp] def ca0_5_ap := cond_rule (c := ca0_5) rfl
def ca0_6 : SC := sSeq (sReg (seqI oa0_5)) ca0_5
@[simp] def ca0_6_ap := seq_rule (c := ca0_6) rfl
def oa0_7 : List IS := [im 1 46 (mBslice 1 2 (rep 2 [(.int .u32 0)]) [(0, 1, (cv (.int .u32 3573759935))), (1, 1, (cv (.int .u32 402653183)))]),
  im 3 47 (mCall 6 [(tg 46)]),
  ip 45 (pMov (tg 47)),
  ip 48 (pExtract (tg 45) 0),
  ip 49 (pExtract (tg 45) 1),
  ip 3 (pMov (tg 48)),
  ip 2 (pMov (tg 49))]
@[simp] def oa0_7_ap := ops_rule (c := oa0_7) rfl
def oa0_8 : List IS := [ip 50 (pMov (tg 2)),
  ip 51 (pBin .neq (tg 50) (cv (.int .i64 0)))]
@[simp] def oa0_8_ap := ops_rule (c := oa0_8) rfl
def oa0_9 : List IS := [ip 0 (pMov (cv (.bool false)))]
def ca0_7 : SC := sSeq (sReg (seqI oa0_9)) sRet
def ca0_8 : SC := sCond (tg 51) ca0_7 sSkip
@[simp] def ca0_8_ap := cond_rule (c := ca0_8) rfl
def ca0_9 : SC := sSeq (sReg (seqI oa0_8)) ca0_8
@[simp] def ca0_9_ap := seq_rule (c := ca0_9) rfl
def oa0_10 : List IS := [ip 4 (pMov (cv (.int .i64 0)))]
@[simp] def oa0_10_ap := ops_rule (c := oa0_10) rfl
def oa0_11 : List IS := [ip 52 (pMov (tg 4)),
  ip 53 (pBin .lss (tg 52) (cv (.int .i64 256)))]
@[simp] def oa0_11_ap := ops_rule (c := oa0_11) rfl
def ca0_10 : SC := sCond (tg 53) sSkip (sExit 0)
@[simp] def ca0_10_ap := cond_rule (c := ca0_10) rfl
def ca0_11 : SC := sSeq (sReg (seqI oa0_11)) ca0_10
@[simp] def ca0_11_ap := seq_rule (c := ca0_11) rfl
def oa0_12 : List IS := [ip 56 (pMov (tg 3)),
  im 3 57 (mCall 7 [(tg 56)]),
  ip 58 (pField false 0 1 (tg 57)),
  ip 59 (pBin .neq (tg 58) (cv (.int .i64 3))),
  ip 60 (pMov (tg 59)),
  gd 60 false (some 61) (ip 61 (pMov (tg 3))),
  gd 60 false (some 62) (im 3 62 (mCall 8 [(tg 61), (cv (.int .u64 0))])),
  gd 60 false (some 63) (ip 63 (pBin .neq (tg 62) (cv (.int .i64 0)))),
  ip 64 (pPick (tg 60) (cv (.bool true)) (tg 63))]
@[simp] def oa0_12_ap := ops_rule (c := oa0_12) rfl
def oa0_13 : List IS := [ip 0 (pMov (cv (.bool false)))]
def ca0_12 : SC := sSeq (sReg (seqI oa0_13)) sRet
def ca0_13 : SC := sCond (tg 64) ca0_12 sSkip
@[simp] def ca0_13_ap := cond_rule (c := ca0_13) rfl
def ca0_14 : SC := sSeq (sReg (seqI oa0_12)) ca0_13
@[simp] def ca0_14_ap := seq_rule (c := ca0_14) rfl
def ca0_15 : SC := sBlock 1 ca0_14
@[simp] def ca0_15_ap := block_rule (c := ca0_15) rfl
def oa0_14 : List IS := [ip 54 (pMov (tg 4)),
  ip 55 (pBin .add (tg 54) (cv (.int .i64 1))),
  ip 4 (pMov (tg 55))]
@[simp] def oa0_14_ap := ops_rule (c := oa0_14) rfl
def ca0_16 : SC := sSeq ca0_15 (sReg (seqI oa0_14))
@[simp] def ca0_16_ap := seq_rule (c := ca0_16) rfl
def ca0_17 : SC := sSeq ca0_11 ca0_16
@[simp] def ca0_17_ap := seq_rule (c := ca0_17) rfl
def ca0_18 : SC := sLoop ca0_17
def ca0_19 : SC := sBlock 0 ca0_18
@[simp] def ca0_19_ap := block_rule (c := ca0_19) rfl
def ca0_20 : SC := sSeq (sReg (seqI oa0_10)) ca0_19
@[simp] def ca0_20_ap := seq_rule (c := ca0_20) rfl
def oa0_15 : List IS := [ip 5 (pMov (cv (.int .i64 254)))]
@[simp] def oa0_15_ap := ops_rule (c := oa0_15) rfl
def oa0_16 : List IS := [ip 65 (pMov (tg 5)),
  ip 66 (pBin .leq (tg 65) (cv (.int .i64 255)))]
@[simp] def oa0_16_ap := ops_rule (c := oa0_16) rfl
def ca0_21 : SC := sCond (tg 66) sSkip (sExit 2)
@[simp] def ca0_21_ap := cond_rule (c := ca0_21) rfl
def ca0_22 : SC := sSeq (sReg (seqI oa0_16)) ca0_21
@[simp] def ca0_22_ap := seq_rule (c := ca0_22) rfl
def oa0_17 : List IS := [ip 6 (pMov (cv (.slice none 0 0)))]
@[simp] def oa0_17_ap := ops_rule (c := oa0_17) rfl
def oa0_18 : List IS := [ip 7 (pMov (cv (.int .i64 0)))]
@[simp] def oa0_18_ap := ops_rule (c := oa0_18) rfl
def oa0_19 : List IS := [ip 69 (pMov (tg 7)),
  ip 70 (pMov (tg 5)),
  ip 71 (pBin .lss (tg 69) (tg 70))]
@[simp] def oa0_19_ap := ops_rule (c := oa0_19) rfl
def ca0_23 : SC := sCond (tg 71) sSkip (sExit 4)
@[simp] def ca0_23_ap := cond_rule (c := ca0_23) rfl
def ca0_24 : SC := sSeq (sReg (seqI oa0_19)) ca0_23
@[simp] def ca0_24_ap := seq_rule (c := ca0_24) rfl
def oa0_20 : List IS := [ip 74 (pMov (tg 6)),
  im 1 75 (mBslice 1 1 (rep 1 [(.int .u32 0)]) [(0, 1, (cv (.int .u32 3573759935)))]),
  im 3 76 (mAppend 1 4 (tg 74) (tg 75)),
  ip 6 (pMov (tg 76))]
@[simp] def oa0_20_ap := ops_rule (c := oa0_20) rfl
def ca0_25 : SC := sBlock 5 (sReg (seqI oa0_20))
@[simp] def ca0_25_ap := block_rule (c := ca0_25) rfl
def oa0_21 : List IS := [ip 72 (pMov (tg 7)),
  ip 73 (pBin .add (tg 72) (cv (.int .i64 1))),
  ip 7 (pMov (tg 73))]
@[simp] def oa0_21_ap := ops_rule (c := oa0_21) rfl
def ca0_26 : SC := sSeq ca0_25 (sReg (seqI oa0_21))
@[simp] def ca0_26_ap := seq_rule (c := ca0_26) rfl
def ca0_27 : SC := sSeq ca0_24 ca0_26
@[simp] def ca0_27_ap := seq_rule (c := ca0_27) rfl
def ca0_28 : SC := sLoop ca0_27
def ca0_29 : SC := sBlock 4 ca0_28
@[simp] def ca0_29_ap := block_rule (c := ca0_29) rfl
def ca0_30 : SC := sSeq (sReg (seqI oa0_18)) ca0_29
@[simp] def ca0_30_ap := seq_rule (c := ca0_30) rfl
def oa0_22 : List IS := [ip 78 (pMov (tg 6)),
  im 1 79 (mBslice 1 2 (rep 2 [(.int .u32 0)]) [(0, 1, (cv (.int .u32 3533701153))), (1, 1, (cv (.int .u32 4164911138)))]),
  im 3 80 (mAppend 1 4 (tg 78) (tg 79)),
  im 3 81 (mCall 6 [(tg 80)]),
  ip 77 (pMov (tg 81)),
  ip 82 (pExtract (tg 77) 0),
  ip 83 (pExtract (tg 77) 1),
  ip 8 (pMov (tg 82)),
  ip 9 (pMov (tg 83))]
@[simp] def oa0_22_ap := ops_rule (c := oa0_22) rfl
def oa0_23 : List IS := [ip 84 (pMov (tg 9)),
  ip 85 (pBin .neq (tg 84) (cv (.int .i64 0)))]
@[simp] def oa0_23_ap := ops_rule (c := oa0_23) rfl
def oa0_24 : List IS := [ip 0 (pMov (cv (.bool false)))]
def ca0_31 : SC := sSeq (sReg (seqI oa0_24)) sRet
def ca0_32 : SC := sCond (tg 85) ca0_31 sSkip
@[simp] def ca0_32_ap := cond_rule (c := ca0_32) rfl
def ca0_33 : SC := sSeq (sReg (seqI oa0_23)) ca0_32
@[simp] def ca0_33_ap := seq_rule (c := ca0_33) rfl
def oa0_25 : List IS := [ip 10 (pMov (cv (.int .i64 0)))]
@[simp] def oa0_25_ap := ops_rule (c := oa0_25) rfl
def oa0_26 : List IS := [ip 86 (pMov (tg 10)),
  ip 87 (pMov (tg 5)),
  ip 88 (pBin .lss (tg 86) (tg 87))]
@[simp] def oa0_26_ap := ops_rule (c := oa0_26) rfl
def ca0_34 : SC := sCond (tg 88) sSkip (sExit 6)
@[simp] def ca0_34_ap := cond_rule (c := ca0_34) rfl
def ca0_35 : SC := sSeq (sReg (seqI oa0_26)) ca0_34
@[simp] def ca0_35_ap := seq_rule (c := ca0_35) rfl
def oa0_27 : List IS := [ip 91 (pMov (tg 8)),
  im 3 92 (mCall 8 [(tg 91), (cv (.int .u64 0))]),
  ip 93 (pBin .neq (tg 92) (cv (.int .i64 0)))]
@[simp] def oa0_27_ap := ops_rule (c := oa0_27) rfl
def oa0_28 : List IS := [ip 0 (pMov (cv (.bool false)))]
def ca0_36 : SC := sSeq (sReg (seqI oa0_28)) sRet
def ca0_37 : SC := sCond (tg 93) ca0_36 sSkip
@[simp] def ca0_37_ap := cond_rule (c := ca0_37) rfl
def ca0_38 : SC := sSeq (sReg (seqI oa0_27)) ca0_37
@[simp] def ca0_38_ap := seq_rule (c := ca0_38) rfl
def ca0_39 : SC := sBlock 7 ca0_38
@[simp] def ca0_39_ap := block_rule (c := ca0_39) rfl
def oa0_29 : List IS := [ip 89 (pMov (tg 10)),
  ip 90 (pBin .add (tg 89) (cv (.int .i64 1))),
  ip 10 (pMov (tg 90))]
@[simp] def oa0_29_ap := ops_rule (c := oa0_29) rfl
def ca0_40 : SC := sSeq ca0_39 (sReg (seqI oa0_29))
@[simp] def ca0_40_ap := seq_rule (c := ca0_40) rfl
def ca0_41 : SC := sSeq ca0_35 ca0_40
@[simp] def ca0_41_ap := seq_rule (c := ca0_41) rfl
def ca0_42 : SC := sLoop ca0_41
def ca0_43 : SC := sBlock 6 ca0_42
@[simp] def ca0_43_ap := block_rule (c := ca0_43) rfl
def ca0_44 : SC := sSeq (sReg (seqI oa0_25)) ca0_43
@[simp] def ca0_44_ap := seq_rule (c := ca0_44) rfl
def oa0_30 : List IS := [ip 94 (pMov (tg 8)),
  im 3 95 (mCall 7 [(tg 94)]),
  im 1 11 (mAlloc [(.int .i64 0), (.int .i64 0), (.int .i64 0), (.int .u64 0), (.bool false), (.bool false)]),
  im0 3 (mStore 6 (tg 11) (tg 95))]
@[simp] def oa0_30_ap := ops_rule (c := oa0_30) rfl
def oa0_31 : List IS := [ip 96 (pMov (tg 5)),
  ip 97 (pBin .eql (tg 96) (cv (.int .i64 254))),
  ip 98 (pMov (tg 97)),
  gd 98 true (some 99) (ip 99 (pFaddr 0 (tg 11))),
  gd 98 true (some 100) (il 100 (tg 99) (mLoad1 (tg 99))),
  gd 98 true (some 101) (ip 101 (pBin .neq (tg 100) (cv (.int .i64 1)))),
  gd 98 true (some 102) (ip 102 (pMov (tg 101))),
  gd 102 false (some 103) (ip 103 (pFaddr 5 (tg 11))),
  gd 102 false (some 104) (il 104 (tg 103) (mLoad1 (tg 103))),
  gd 102 false (some 105) (ip 105 (pUn .not (tg 104))),
  gd 98 true (some 106) (ip 106 (pPick (tg 102) (cv (.bool true)) (tg 105))),
  ip 107 (pPick (tg 98) (tg 106) (cv (.bool false))),
  ip 108 (pMov (tg 107)),
  gd 108 false (some 109) (ip 109 (pMov (tg 5))),
  gd 108 false (some 110) (ip 110 (pBin .eql (tg 109) (cv (.int .i64 255)))),
  gd 108 false (some 111) (ip 111 (pMov (tg 110))),
  gd 111 true (some 112) (ip 112 (pFaddr 0 (tg 11))),
  gd 111 true (some 113) (il 113 (tg 112) (mLoad1 (tg 112))),
  gd 111 true (some 114) (ip 114 (pBin .neq (tg 113) (cv (.int .i64 6)))),
  gd 108 false (some 115) (ip 115 (pPick (tg 111) (tg 114) (cv (.bool false)))),
  ip 116 (pPick (tg 108) (cv (.bool true)) (tg 115))]
@[simp] def oa0_31_ap := ops_rule (c := oa0_31) rfl
def oa0_32 : List IS := [ip 0 (pMov (cv (.bool false)))]
def ca0_45 : SC := sSeq (sReg (seqI oa0_32)) sRet
def ca0_46 : SC := sCond (tg 116) ca0_45 sSkip
@[simp] def ca0_46_ap := cond_rule (c := ca0_46) rfl
def ca0_47 : SC := sSeq (sReg (seqI oa0_31)) ca0_46
@[simp] def ca0_47_ap := seq_rule (c := ca0_47) rfl
def ca0_48 : SC := sSeq (sReg (seqI oa0_30)) ca0_47
@[simp] def ca0_48_ap := seq_rule (c := ca0_48) rfl
def ca0_49 : SC := sSeq ca0_44 ca0_48
@[simp] def ca0_49_ap := seq_rule (c := ca0_49) rfl
def ca0_50 : SC := sSeq ca0_33 ca0_49
@[simp] def ca0_50_ap := seq_rule (c := ca0_50) rfl
def ca0_51 : SC := sSeq (sReg (seqI oa0_22)) ca0_50
@[simp] def ca0_51_ap := seq_rule (c := ca0_51) rfl
def ca0_52 : SC := sSeq ca0_30 ca0_51
@[simp] def ca0_52_ap := seq_rule (c := ca0_52) rfl
def ca0_53 : SC := sSeq (sReg (seqI oa0_17)) ca0_52
@[simp] def ca0_53_ap := seq_rule (c := ca0_53) rfl
def ca0_54 : SC := sBlock 3 ca0_53
@[simp] def ca0_54_ap := block_rule (c := ca0_54) rfl
def oa0_33 : List IS := [ip 67 (pMov (tg 5)),
  ip 68 (pBin .add (tg 67) (cv (.int .i64 1))),
  ip 5 (pMov (tg 68))]
@[simp] def oa0_33_ap := ops_rule (c := oa0_33) rfl
def ca0_55 : SC := sSeq ca0_54 (sReg (seqI oa0_33))
@[simp] def ca0_55_ap := seq_rule (c := ca0_55) rfl
def ca0_56 : SC := sSeq ca0_22 ca0_55
@[simp] def ca0_56_ap := seq_rule (c := ca0_56) rfl
def ca0_57 : SC := sLoop ca0_56
def ca0_58 : SC := sBlock 2 ca0_57
@[simp] def ca0_58_ap := block_rule (c := ca0_58) rfl
def ca0_59 : SC := sSeq (sReg (seqI oa0_15)) ca0_58
@[simp] def ca0_59_ap := seq_rule (c := ca0_59) rfl
def oa0_34 : List IS := [ip 117 (pMov (tg 3)),
  im 3 118 (mCall 9 [(tg 117)]),
  im 1 12 (mAlloc [(.slice none 0 0), (.slice none 0 0), (.slice none 0 0), (.slice none 0 0), (.slice none 0 0), (.slice none 0 0), (.int .i64 0), (.int .i64 0), (.int .i64 0)]),
  im0 3 (mStore 9 (tg 12) (tg 118))]
@[simp] def oa0_34_ap := ops_rule (c := oa0_34) rfl
def oa0_35 : List IS := [ip 119 (pMov (tg 3)),
  im 3 120 (mCall 7 [(tg 119)]),
  ip 121 (pField false 0 1 (tg 120)),
  ip 122 (pBin .eql (tg 121) (cv (.int .i64 6))),
  ip 123 (pMov (tg 122)),
  gd 123 true (some 124) (ip 124 (pMov (tg 3))),
  gd 123 true (some 125) (im 3 125 (mCall 8 [(tg 124), (cv (.int .u64 0))])),
  gd 123 true (some 126) (ip 126 (pBin .eql (tg 125) (cv (.int .i64 1)))),
  ip 127 (pPick (tg 123) (tg 126) (cv (.bool false))),
  ip 128 (pMov (tg 127)),
  gd 128 true (some 129) (ip 129 (pFaddr 0 (tg 12))),
  gd 128 true (some 130) (il 130 (tg 129) (mLoad1 (tg 129))),
  gd 128 true (some 131) (ip 131 (pLen (tg 130))),
  gd 128 true (some 132) (ip 132 (pBin .eql (tg 131) (cv (.int .i64 256)))),
  ip 133 (pPick (tg 128) (tg 132) (cv (.bool false))),
  ip 134 (pMov (tg 133)),
  gd 134 true (some 135) (ip 135 (pFaddr 6 (tg 12))),
  gd 134 true (some 136) (il 136 (tg 135) (mLoad1 (tg 135))),
  gd 134 true (some 137) (ip 137 (pBin .eql (tg 136) (cv (.int .i64 4)))),
  ip 138 (pPick (tg 134) (tg 137) (cv (.bool false))),
  ip 0 (pMov (tg 138))]
@[simp] def oa0_35_ap := ops_rule (c := oa0_35) rfl
def ca0_60 : SC := sSeq (sReg (seqI oa0_35)) sRet
@[simp] def ca0_60_ap := seq_rule (c := ca0_60) rfl
def ca0_61 : SC := sSeq (sReg (seqI oa0_34)) ca0_60
@[simp] def ca0_61_ap := seq_rule (c := ca0_61) rfl
def ca0_62 : SC := sSeq ca0_59 ca0_61
@[simp] def ca0_62_ap := seq_rule (c := ca0_62) rfl
def ca0_63 : SC := sSeq ca0_20 ca0_62
@[simp] def ca0_63_ap := seq_rule (c := ca0_63) rfl
def ca0_64 : SC := sSeq ca0_9 ca0_63
@[simp] def ca0_64_ap := seq_rule (c := ca0_64) rfl
def ca0_65 : SC := sSeq (sReg (seqI oa0_7)) ca0_64
@[simp] def ca0_65_ap := seq_rule (c := ca0_65) rfl
def ca0_66 : SC := sSeq ca0_6 ca0_65
@[simp] def ca0_66_ap := seq_rule (c := ca0_66) rfl
def ca0_67 : SC := sSeq (sReg (seqI oa0_4)) ca0_66
@[simp] def ca0_67_ap := seq_rule (c := ca0_67) rfl
def ca0_68 : SC := sSeq ca0_3 ca0_67
@[simp] def ca0_68_ap := seq_rule (c := ca0_68) rfl
def ca0_69 : SC := sSeq (sReg (seqI oa0_1)) ca0_68
@[simp] def ca0_69_ap := seq_rule (c := ca0_69) rfl
def da0 : DFn := ⟨ca0_69, 139, [.t 0]⟩
theorem da0_ok : fnOf Try.prog 3 = some da0 := by kernel_rfl
def oa1_1 : List IS := [ip 2 (pMov (cv (.pointer none))),
  ip 3 (pMov (cv (.int .i64 0)))]
@[simp] def oa1_1_ap := ops_rule (c := oa1_1) rfl
def oa1_2 : List IS := [ip 8 (pMov (tg 0)),
  im 3 9 (mCall 14 [(tg 8)]),
  ip 7 (pMov (tg 9)),
  ip 10 (pExtract (tg 7) 0),
  ip 11 (pExtract (tg 7) 1),
  ip 12 (pExtract (tg 7) 2),
  ip 4 (pMov (tg 10)),
  ip 5 (pMov (tg 11)),
  ip 6 (pMov (tg 12))]
@[simp] def oa1_2_ap := ops_rule (c := oa1_2) rfl
def oa1_3 : List IS := [ip 13 (pMov (tg 6)),
  ip 14 (pBin .neq (tg 13) (cv (.int .i64 0)))]
@[simp] def oa1_3_ap := ops_rule (c := oa1_3) rfl
def oa1_4 : List IS := [ip 15 (pMov (tg 6)),
  ip 2 (pMov (cv (.pointer none))),
  ip 3 (pMov (tg 15))]
def ca1_1 : SC := sSeq (sReg (seqI oa1_4)) sRet
def ca1_2 : SC := sCond (tg 14) ca1_1 sSkip
@[simp] def ca1_2_ap := cond_rule (c := ca1_2) rfl
def ca1_3 : SC := sSeq (sReg (seqI oa1_3)) ca1_2
@[simp] def ca1_3_ap := seq_rule (c := ca1_3) rfl
def oa1_5 : List IS := [ip 16 (pMov (tg 4)),
  ip 17 (pBuild [(.slice none 0 0), (.int .i64 0), (.int .u64 0), (.int .u64 0), (.int .u64 0), (.int .u64 0), (.int .u64 0), (.int .u64 0), (.int .u64 0), (.int .u64 0), (.int .u64 0), (.int .u64 0), (.int .u64 0), (.int .u64 0), (.int .u64 0), (.int .u64 0), (.int .u64 0), (.int .u64 0), (.int .u64 0), (.int .u64 0), (.int .u64 0), (.int .u64 0), (.int .u64 0), (.int .u64 0), (.int .u64 0), (.int .u64 0), (.int .u64 0), (.int .u64 0), (.int .u64 0), (.int .u64 0), (.int .u64 0), (.int .u64 0), (.int .u64 0), (.int .u64 0), (.slice none 0 0), (.slice none 0 0), (.slice none 0 0), (.slice none 0 0), (.slice none 0 0), (.slice none 0 0), (.slice none 0 0), (.slice none 0 0), (.slice none 0 0), (.slice none 0 0), (.slice none 0 0), (.slice none 0 0), (.slice none 0 0), (.slice none 0 0), (.slice none 0 0), (.slice none 0 0), (.slice none 0 0), (.slice none 0 0), (.slice none 0 0), (.slice none 0 0), (.slice none 0 0), (.slice none 0 0), (.slice none 0 0), (.slice none 0 0), (.slice none 0 0), (.slice none 0 0), (.slice none 0 0), (.slice none 0 0), (.slice none 0 0), (.slice none 0 0), (.slice none 0 0), (.slice none 0 0), (.bool false), (.bool false), (.bool false), (.bool false), (.slice none 0 0), (.slice none 0 0), (.bool false), (.int .i64 0), (.int .i64 0), (.pointer none), (.int .i64 0), (.int .i64 0), (.slice none 0 0), (.slice none 0 0), (.slice none 0 0), (.slice none 0 0), (.slice none 0 0), (.slice none 0 0), (.int .i64 0), (.int .i64 0), (.int .i64 0), (.int .i64 0)] [(0, 1, (tg 16)), (87, 1, (cv (.int .i64 (-1))))]),
  im 1 18 (mBox (tg 17)),
  ip 2 (pMov (tg 18)),
  ip 3 (pMov (cv (.int .i64 0)))]
@[simp] def oa1_5_ap := ops_rule (c := oa1_5) rfl
def ca1_4 : SC := sSeq (sReg (seqI oa1_5)) sRet
@[simp] def ca1_4_ap := seq_rule (c := ca1_4) rfl
def ca1_5 : SC := sSeq ca1_3 ca1_4
@[simp] def ca1_5_ap := seq_rule (c := ca1_5) rfl
def ca1_6 : SC := sSeq (sReg (seqI oa1_2)) ca1_5
@[simp] def ca1_6_ap := seq_rule (c := ca1_6) rfl
def ca1_7 : SC := sSeq (sReg (seqI oa1_1)) ca1_6
@[simp] def ca1_7_ap := seq_rule (c := ca1_7) rfl
def da1 : DFn := ⟨ca1_7, 19, [.t 2, .t 3]⟩
theorem da1_ok : fnOf Try.prog 6 = some da1 := by kernel_rfl
def oa2_1 : List IS := [im 1 2 (mAlloc [(.int .i64 0), (.int .i64 0), (.int .i64 0), (.int .u64 0), (.bool false), (.bool false)])]
@[simp] def oa2_1_ap := ops_rule (c := oa2_1) rfl
def oa2_2 : List IS := [ip 6 (pMov (tg 0)),
  ip 7 (pNilck (tg 6)),
  ip 8 (pFaddr 75 (tg 7)),
  il 9 (tg 8) (mLoad1 (tg 8)),
  ip 10 (pEqN true nilP true (tg 9) (cv (.pointer none)))]
@[simp] def oa2_2_ap := ops_rule (c := oa2_2) rfl
def oa2_3 : List IS := [ip 11 (pMov (tg 0)),
  ip 12 (pNilck (tg 11)),
  ip 13 (pFaddr 75 (tg 12)),
  il 14 (tg 13) (mLoad1 (tg 13)),
  ip 15 (pNilck (tg 14)),
  ip 16 (pFaddr 0 (tg 15)),
  il 17 (tg 16) (mLoadN 6 (tg 16)),
  im0 3 (mStore 6 (tg 2) (tg 17))]
def ca2_1 : SC := sSeq (sReg (seqI oa2_3)) sRet
def ca2_2 : SC := sCond (tg 10) ca2_1 sSkip
@[simp] def ca2_2_ap := cond_rule (c := ca2_2) rfl
def ca2_3 : SC := sSeq (sReg (seqI oa2_2)) ca2_2
@[simp] def ca2_3_ap := seq_rule (c := ca2_3) rfl
def oa2_4 : List DA := [⟨CI.pure (pMov (tg 0)), (some 18), none, 0, []⟩,
  ⟨CI.pure (pNilck (tg 18)), (some 19), none, 1, []⟩,
  ⟨CI.pure (pFaddr 1 (tg 19)), (some 20), none, 2, []⟩,
  ⟨CI.load (tg 20) (mLoad1 (tg 20)), (some 21), none, 3, []⟩,
  ⟨CI.pure (pBin .lss (tg 21) (cv (.int .i64 0))), (some 22), none, 4, []⟩,
  ⟨CI.pure (pMov (tg 22)), (some 23), none, 5, []⟩,
  ⟨CI.pure (pMov (tg 0)), (some 24), (some (23, false)), 6, []⟩,
  ⟨CI.pure (pNilck (tg 24)), (some 25), (some (23, false)), 7, []⟩,
  ⟨CI.pure (pFaddr 1 (tg 25)), (some 26), (some (23, false)), 8, []⟩,
  ⟨CI.load (tg 26) (mLoad1 (tg 26)), (some 27), (some (23, false)), 9, []⟩,
  ⟨CI.pure (pMov (tg 0)), (some 28), (some (23, false)), 10, []⟩,
  ⟨CI.pure (pNilck (tg 28)), (some 29), (some (23, false)), 11, []⟩,
  ⟨CI.pure (pFaddr 0 (tg 29)), (some 30), (some (23, false)), 12, []⟩,
  ⟨CI.load (tg 30) (mLoad1 (tg 30)), (some 31), (some (23, false)), 13, []⟩,
  ⟨CI.pure (pLen (tg 31)), (some 32), (some (23, false)), 14, []⟩,
  ⟨CI.pure (pBin .geq (tg 27) (tg 32)), (some 33), (some (23, false)), 15, []⟩,
  ⟨CI.pure (pPick (tg 23) (cv (.bool true)) (tg 33)), (some 34), none, 16, []⟩]
@[simp] def oa2_4_ap := das_rule (c := oa2_4) rfl
def oa2_5 : List IS := [ip 35 (pBuild [(.int .i64 0), (.int .i64 0), (.int .i64 0), (.int .u64 0), (.bool false), (.bool false)] [(0, 1, (cv (.int .i64 7)))]),
  im0 3 (mStore 6 (tg 2) (tg 35))]
def ca2_4 : SC := sSeq (sReg (seqI oa2_5)) sRet
def ca2_5 : SC := sCond (tg 34) ca2_4 sSkip
@[simp] def ca2_5_ap := cond_rule (c := ca2_5) rfl
def ca2_6 : SC := sSeq (sAny oa2_4) ca2_5
@[simp] def ca2_6_ap := seq_rule (c := ca2_6) rfl
def oa2_6 : List DA := [⟨CI.pure (pMov (tg 0)), (some 36), none, 0, []⟩,
  ⟨CI.pure (pNilck (tg 36)), (some 37), none, 1, []⟩,
  ⟨CI.pure (pFaddr 0 (tg 37)), (some 38), none, 2, []⟩,
  ⟨CI.load (tg 38) (mLoad1 (tg 38)), (some 39), none, 3, []⟩,
  ⟨CI.pure (pMov (tg 0)), (some 40), none, 4, []⟩,
  ⟨CI.pure (pNilck (tg 40)), (some 41), none, 5, []⟩,
  ⟨CI.pure (pFaddr 1 (tg 41)), (some 42), none, 6, []⟩,
  ⟨CI.load (tg 42) (mLoad1 (tg 42)), (some 43), none, 7, []⟩,
  ⟨CI.pure (pIaddrS 6 (tg 39) (tg 43)), (some 44), none, 8, []⟩,
  ⟨CI.load (tg 44) (mLoadN 6 (tg 44)), (some 45), none, 9, []⟩,
  ⟨CI.mem 1 (mAlloc [(.int .i64 0), (.int .i64 0), (.int .i64 0), (.int .i64 0), (.int .i64 0), (.int .i64 0)]), (some 3), none, 10, []⟩,
  ⟨CI.mem 3 (mStore 6 (tg 3) (tg 45)), none, none, 11, []⟩]
@[simp] def oa2_6_ap := das_rule (c := oa2_6) rfl
def oa2_7 : List IS := [ip 47 (pMov (tg 0)),
  il 48 (tg 3) (mLoadN 6 (tg 3)),
  im 3 49 (mCall 15 [(tg 47), (tg 48)]),
  ip 46 (pMov (tg 49)),
  ip 50 (pExtract (tg 46) 0),
  ip 51 (pExtract (tg 46) 1),
  im 1 4 (mAlloc [(.int .i64 0), (.int .i64 0), (.int .i64 0), (.int .u64 0), (.bool false), (.bool false)]),
  im0 3 (mStore 6 (tg 4) (tg 50)),
  ip 5 (pMov (tg 51))]
@[simp] def oa2_7_ap := ops_rule (c := oa2_7) rfl
def oa2_8 : List IS := [ip 52 (pMov (tg 5)),
  ip 53 (pUn .not (tg 52))]
@[simp] def oa2_8_ap := ops_rule (c := oa2_8) rfl
def oa2_9 : List IS := [il 54 (tg 4) (mLoadN 6 (tg 4)),
  im0 3 (mStore 6 (tg 2) (tg 54))]
@[simp] def oa2_9_ap := ops_rule (c := oa2_9) rfl
def ca2_7 : SC := sSeq (sReg (seqI oa2_9)) sRet
@[simp] def ca2_7_ap := seq_rule (c := ca2_7) rfl
def ca2_8 : SC := sCond (tg 53) ca2_7 sSkip
@[simp] def ca2_8_ap := cond_rule (c := ca2_8) rfl
def ca2_9 : SC := sSeq (sReg (seqI oa2_8)) ca2_8
@[simp] def ca2_9_ap := seq_rule (c := ca2_9) rfl
def oa2_10 : List IS := [ip 55 (pMov (tg 0)),
  ip 56 (pNilck (tg 55)),
  ip 57 (pFaddr 76 (tg 56)),
  il 58 (tg 57) (mLoad1 (tg 57)),
  ip 59 (pBin .geq (tg 58) (cv (.int .i64 100000))),
  ip 60 (pMov (tg 59)),
  gd 60 false (some 61) (ip 61 (pMov (tg 0))),
  gd 60 false (some 62) (im 3 62 (mCall 16 [(tg 61)])),
  ip 63 (pPick (tg 60) (cv (.bool true)) (tg 62))]
@[simp] def oa2_10_ap := ops_rule (c := oa2_10) rfl
def oa2_11 : List IS := [ip 64 (pBuild [(.int .i64 0), (.int .i64 0), (.int .i64 0), (.int .u64 0), (.bool false), (.bool false)] [(0, 1, (cv (.int .i64 6)))]),
  im0 3 (mStore 6 (tg 2) (tg 64))]
@[simp] def oa2_11_ap := ops_rule (c := oa2_11) rfl
def ca2_10 : SC := sSeq (sReg (seqI oa2_11)) sRet
@[simp] def ca2_10_ap := seq_rule (c := ca2_10) rfl
def ca2_11 : SC := sCond (tg 63) ca2_10 sSkip
@[simp] def ca2_11_ap := cond_rule (c := ca2_11) rfl
def ca2_12 : SC := sSeq (sReg (seqI oa2_10)) ca2_11
@[simp] def ca2_12_ap := seq_rule (c := ca2_12) rfl
def oa2_12 : List IS := [ip 65 (pMov (tg 0)),
  ip 66 (pNilck (tg 65)),
  ip 67 (pFaddr 76 (tg 66)),
  il 68 (tg 67) (mLoad1 (tg 67)),
  ip 69 (pBin .add (tg 68) (cv (.int .i64 1))),
  ip 70 (pNilck (tg 65)),
  ip 71 (pFaddr 76 (tg 70)),
  im0 3 (mStore 1 (tg 71) (tg 69))]
@[simp] def oa2_12_ap := ops_rule (c := oa2_12) rfl
def oa2_13 : List IS := [ip 72 (pMov (tg 0)),
  ip 73 (pNilck (tg 72)),
  ip 74 (pFaddr 77 (tg 73)),
  il 75 (tg 74) (mLoad1 (tg 74)),
  ip 76 (pBin .add (tg 75) (cv (.int .i64 1))),
  ip 77 (pNilck (tg 72)),
  ip 78 (pFaddr 77 (tg 77)),
  im0 3 (mStore 1 (tg 78) (tg 76))]
@[simp] def oa2_13_ap := ops_rule (c := oa2_13) rfl
def oa2_14 : List IS := [ip 79 (pMov (tg 0)),
  ip 80 (pMov (tg 0)),
  il 81 (tg 3) (mLoadN 6 (tg 3)),
  im 3 82 (mCall 17 [(tg 80), (tg 81)]),
  ip 83 (pNilck (tg 79)),
  ip 84 (pFaddr 1 (tg 83)),
  im0 3 (mStore 1 (tg 84) (tg 82))]
@[simp] def oa2_14_ap := ops_rule (c := oa2_14) rfl
def ca2_13 : SC := sSeq (sReg (seqI oa2_13)) (sReg (seqI oa2_14))
@[simp] def ca2_13_ap := seq_rule (c := ca2_13) rfl
def ca2_14 : SC := sSeq (sReg (seqI oa2_12)) ca2_13
@[simp] def ca2_14_ap := seq_rule (c := ca2_14) rfl
def ca2_15 : SC := sSeq ca2_12 ca2_14
@[simp] def ca2_15_ap := seq_rule (c := ca2_15) rfl
def ca2_16 : SC := sSeq ca2_9 ca2_15
@[simp] def ca2_16_ap := seq_rule (c := ca2_16) rfl
def ca2_17 : SC := sSeq (sReg (seqI oa2_7)) ca2_16
@[simp] def ca2_17_ap := seq_rule (c := ca2_17) rfl
def ca2_18 : SC := sSeq (sAny oa2_6) ca2_17
@[simp] def ca2_18_ap := seq_rule (c := ca2_18) rfl
def ca2_19 : SC := sSeq ca2_6 ca2_18
@[simp] def ca2_19_ap := seq_rule (c := ca2_19) rfl
def ca2_20 : SC := sSeq ca2_3 ca2_19
@[simp] def ca2_20_ap := seq_rule (c := ca2_20) rfl
def ca2_21 : SC := sBlock 1 ca2_20
@[simp] def ca2_21_ap := block_rule (c := ca2_21) rfl
def ca2_22 : SC := sLoop ca2_21
def ca2_23 : SC := sBlock 0 ca2_22
@[simp] def ca2_23_ap := block_rule (c := ca2_23) rfl
def ca2_24 : SC := sSeq (sReg (seqI oa2_1)) ca2_23
@[simp] def ca2_24_ap := seq_rule (c := ca2_24) rfl
def da2 : DFn := ⟨ca2_24, 85, [.cell 2 6]⟩
theorem da2_ok : fnOf Try.prog 7 = some da2 := by kernel_rfl
def oa3_1 : List IS := [ip 4 (pMov (cv (.int .i64 0)))]
@[simp] def oa3_1_ap := ops_rule (c := oa3_1) rfl
def oa3_2 : List IS := [ip 8 (pMov (tg 0)),
  im 3 9 (mCall 7 [(tg 8)]),
  im 1 5 (mAlloc [(.int .i64 0), (.int .i64 0), (.int .i64 0), (.int .u64 0), (.bool false), (.bool false)]),
  im0 3 (mStore 6 (tg 5) (tg 9))]
@[simp] def oa3_2_ap := ops_rule (c := oa3_2) rfl
def oa3_3 : List IS := [ip 10 (pFaddr 0 (tg 5)),
  il 11 (tg 10) (mLoad1 (tg 10)),
  ip 12 (pBin .geq (tg 11) (cv (.int .i64 5))),
  ip 13 (pMov (tg 12)),
  gd 13 false (some 14) (ip 14 (pFaddr 0 (tg 5))),
  gd 13 false (some 15) (il 15 (tg 14) (mLoad1 (tg 14))),
  gd 13 false (some 16) (ip 16 (pBin .eql (tg 15) (cv (.int .i64 2)))),
  gd 13 false (some 17) (ip 17 (pMov (tg 16))),
  gd 17 true (some 18) (ip 18 (pFaddr 4 (tg 5))),
  gd 17 true (some 19) (il 19 (tg 18) (mLoad1 (tg 18))),
  gd 13 false (some 20) (ip 20 (pPick (tg 17) (tg 19) (cv (.bool false)))),
  gd 13 false (some 21) (ip 21 (pMov (tg 20))),
  gd 21 true (some 22) (ip 22 (pMov (tg 1))),
  gd 21 true (some 23) (ip 23 (pBin .gtr (tg 22) (cv (.int .u64 1)))),
  gd 13 false (some 24) (ip 24 (pPick (tg 21) (tg 23) (cv (.bool false)))),
  ip 25 (pPick (tg 13) (cv (.bool true)) (tg 24))]
@[simp] def oa3_3_ap := ops_rule (c := oa3_3) rfl
def oa3_4 : List IS := [ip 4 (pMov (cv (.int .i64 1)))]
@[simp] def oa3_4_ap := ops_rule (c := oa3_4) rfl
def ca3_1 : SC := sSeq (sReg (seqI oa3_4)) sRet
@[simp] def ca3_1_ap := seq_rule (c := ca3_1) rfl
def ca3_2 : SC := sCond (tg 25) ca3_1 sSkip
@[simp] def ca3_2_ap := cond_rule (c := ca3_2) rfl
def ca3_3 : SC := sSeq (sReg (seqI oa3_3)) ca3_2
@[simp] def ca3_3_ap := seq_rule (c := ca3_3) rfl
def oa3_5 : List DA := [⟨CI.pure (pMov (tg 0)), (some 26), none, 0, []⟩,
  ⟨CI.pure (pNilck (tg 26)), (some 27), none, 1, []⟩,
  ⟨CI.pure (pFaddr 0 (tg 27)), (some 28), none, 2, []⟩,
  ⟨CI.load (tg 28) (mLoad1 (tg 28)), (some 29), none, 3, []⟩,
  ⟨CI.pure (pMov (tg 0)), (some 30), none, 4, []⟩,
  ⟨CI.pure (pNilck (tg 30)), (some 31), none, 5, []⟩,
  ⟨CI.pure (pFaddr 1 (tg 31)), (some 32), none, 6, []⟩,
  ⟨CI.load (tg 32) (mLoad1 (tg 32)), (some 33), none, 7, []⟩,
  ⟨CI.pure (pIaddrS 6 (tg 29) (tg 33)), (some 34), none, 8, []⟩,
  ⟨CI.load (tg 34) (mLoadN 6 (tg 34)), (some 35), none, 9, []⟩,
  ⟨CI.mem 1 (mAlloc [(.int .i64 0), (.int .i64 0), (.int .i64 0), (.int .i64 0), (.int .i64 0), (.int .i64 0)]), (some 6), none, 10, []⟩,
  ⟨CI.mem 3 (mStore 6 (tg 6) (tg 35)), none, none, 11, []⟩]
@[simp] def oa3_5_ap := das_rule (c := oa3_5) rfl
def oa3_6 : List IS := [ip 36 (pMov (tg 0)),
  ip 37 (pNilck (tg 36)),
  ip 38 (pFaddr 78 (tg 37)),
  ip 39 (pFaddr 0 (tg 38)),
  il 40 (tg 39) (mLoad1 (tg 39)),
  ip 41 (pLen (tg 40)),
  ip 7 (pMov (tg 41))]
@[simp] def oa3_6_ap := ops_rule (c := oa3_6) rfl
def oa3_7 : List IS := [ip 42 (pFaddr 0 (tg 5)),
  il 43 (tg 42) (mLoad1 (tg 42))]
@[simp] def oa3_7_ap := ops_rule (c := oa3_7) rfl
def oa3_8 : List IS := [ip 45 (pBin .eql (tg 43) (cv (.int .i64 1))),
  ip 44 (pMov (tg 45))]
@[simp] def oa3_8_ap := ops_rule (c := oa3_8) rfl
def oa3_9 : List DA := [⟨CI.pure (pMov (tg 0)), (some 46), none, 0, []⟩,
  ⟨CI.pure (pMov (tg 0)), (some 47), none, 1, []⟩,
  ⟨CI.pure (pFaddr 2 (tg 6)), (some 48), none, 2, []⟩,
  ⟨CI.load (tg 48) (mLoad1 (tg 48)), (some 49), none, 3, []⟩,
  ⟨CI.pure (pNilck (tg 47)), (some 50), none, 4, []⟩,
  ⟨CI.pure (pFaddr 2 (tg 50)), (some 51), none, 5, []⟩,
  ⟨CI.pure (pFaddr 32 (tg 51)), (some 52), none, 6, []⟩,
  ⟨CI.pure (pIaddrA 32 1 (tg 52) (tg 49)), (some 53), none, 7, []⟩,
  ⟨CI.load (tg 53) (mLoad1 (tg 53)), (some 54), none, 8, []⟩,
  ⟨CI.pure (pFaddr 1 (tg 5)), (some 55), none, 9, []⟩,
  ⟨CI.load (tg 55) (mLoad1 (tg 55)), (some 56), none, 10, []⟩,
  ⟨CI.pure (pMov (tg 1)), (some 57), none, 11, []⟩,
  ⟨CI.pure (pFaddr 2 (tg 5)), (some 58), none, 12, []⟩,
  ⟨CI.load (tg 58) (mLoad1 (tg 58)), (some 59), none, 13, []⟩,
  ⟨CI.pure (pBuild [(.int .i64 0), (.int .i64 0), (.int .i64 0), (.int .u64 0), (.int .i64 0)] [(1, 1, (cv (.int .i64 1))), (2, 1, (tg 56)), (3, 1, (tg 57)), (4, 1, (tg 59))]), (some 60), none, 14, []⟩,
  ⟨CI.mem 3 (mCall 18 [(tg 46), (tg 54), (tg 60)]), (some 61), none, 15, []⟩]
def oa3_10 : List IS := [ip 62 (pMov (tg 0)),
  ip 63 (pNilck (tg 62)),
  ip 64 (pFaddr 78 (tg 63)),
  ip 65 (pFaddr 8 (tg 64)),
  il 66 (tg 65) (mLoad1 (tg 65)),
  ip 67 (pBin .add (tg 66) (cv (.int .i64 1))),
  ip 68 (pNilck (tg 62)),
  ip 69 (pFaddr 78 (tg 68)),
  ip 70 (pFaddr 8 (tg 69)),
  im0 3 (mStore 1 (tg 70) (tg 67))]
def oa3_11 : List IS := [ip 71 (pFaddr 5 (tg 5)),
  il 72 (tg 71) (mLoad1 (tg 71)),
  ip 73 (pMov (tg 72)),
  gd 73 true (some 74) (ip 74 (pMov (tg 0))),
  gd 73 true (some 75) (il 75 (tg 6) (mLoadN 6 (tg 6))),
  gd 73 true (some 76) (il 76 (tg 5) (mLoadN 6 (tg 5))),
  gd 73 true (some 77) (ip 77 (pMov (tg 1))),
  gd 73 true (some 78) (ip 78 (pMov (tg 7))),
  gd 73 true (some 79) (im 3 79 (mCall 19 [(tg 74), (tg 75), (tg 76), (tg 77), (tg 78)])),
  ip 80 (pPick (tg 73) (tg 79) (cv (.bool false)))]
def oa3_12 : List IS := [ip 81 (pMov (tg 0)),
  ip 82 (pNilck (tg 81)),
  ip 83 (pFaddr 76 (tg 82)),
  im0 3 (mStore 1 (tg 83) (cv (.int .i64 0)))]
def oa3_13 : List IS := [ip 84 (pMov (tg 0)),
  ip 85 (pNilck (tg 84)),
  ip 86 (pFaddr 77 (tg 85)),
  il 87 (tg 86) (mLoad1 (tg 86)),
  ip 88 (pBin .add (tg 87) (cv (.int .i64 1))),
  ip 89 (pNilck (tg 84)),
  ip 90 (pFaddr 77 (tg 89)),
  im0 3 (mStore 1 (tg 90) (tg 88))]
def oa3_14 : List IS := [ip 4 (pMov (cv (.int .i64 0)))]
def ca3_4 : SC := sSeq (sReg (seqI oa3_14)) sRet
def ca3_5 : SC := sSeq (sReg (seqI oa3_13)) ca3_4
def ca3_6 : SC := sSeq (sReg (seqI oa3_12)) ca3_5
def ca3_7 : SC := sCond (tg 80) ca3_6 sSkip
def ca3_8 : SC := sSeq (sReg (seqI oa3_11)) ca3_7
def oa3_15 : List IS := [ip 91 (pFaddr 5 (tg 5)),
  il 92 (tg 91) (mLoad1 (tg 91)),
  ip 93 (pUn .not (tg 92))]
def oa3_16 : List DA := [⟨CI.pure (pMov (tg 0)), (some 94), none, 0, []⟩,
  ⟨CI.pure (pNilck (tg 94)), (some 95), none, 1, []⟩,
  ⟨CI.pure (pFaddr 2 (tg 95)), (some 96), none, 2, []⟩,
  ⟨CI.pure (pFaddr 1 (tg 6)), (some 97), none, 3, []⟩,
  ⟨CI.load (tg 97) (mLoad1 (tg 97)), (some 98), none, 4, []⟩,
  ⟨CI.pure (pMov (tg 1)), (some 99), none, 5, []⟩,
  ⟨CI.pure (pMov (tg 7)), (some 100), none, 6, []⟩,
  ⟨CI.mem 1 (mBslice 1 1 (rep 1 [(.int .i64 0)]) [(0, 1, (tg 100))]), (some 101), none, 7, []⟩,
  ⟨CI.mem 3 (mCall 20 [(tg 96), (tg 98), (tg 99), (tg 101)]), (some 102), none, 8, []⟩]
def ca3_9 : SC := sCond (tg 93) (sAny oa3_16) sSkip
def ca3_10 : SC := sSeq (sReg (seqI oa3_15)) ca3_9
def oa3_17 : List IS := [ip 103 (pFaddr 4 (tg 5)),
  il 104 (tg 103) (mLoad1 (tg 103))]
def oa3_18 : List DA := [⟨CI.pure (pMov (tg 0)), (some 105), none, 0, []⟩,
  ⟨CI.pure (pMov (tg 0)), (some 106), none, 1, []⟩,
  ⟨CI.pure (pMov (tg 0)), (some 107), none, 2, []⟩,
  ⟨CI.pure (pFaddr 1 (tg 5)), (some 108), none, 3, []⟩,
  ⟨CI.load (tg 108) (mLoad1 (tg 108)), (some 109), none, 4, []⟩,
  ⟨CI.pure (pMov (tg 7)), (some 110), none, 5, []⟩,
  ⟨CI.pure (pNilck (tg 105)), (some 111), none, 6, []⟩,
  ⟨CI.pure (pFaddr 72 (tg 111)), (some 112), none, 7, []⟩,
  ⟨CI.mem 3 (mStore 1 (tg 112) (cv (.bool true))), none, none, 8, [4]⟩,
  ⟨CI.pure (pNilck (tg 106)), (some 113), none, 9, []⟩,
  ⟨CI.pure (pFaddr 73 (tg 113)), (some 114), none, 10, []⟩,
  ⟨CI.mem 3 (mStore 1 (tg 114) (tg 109)), none, none, 11, []⟩,
  ⟨CI.pure (pNilck (tg 107)), (some 115), none, 12, []⟩,
  ⟨CI.pure (pFaddr 74 (tg 115)), (some 116), none, 13, []⟩,
  ⟨CI.mem 3 (mStore 1 (tg 116) (tg 110)), none, none, 14, []⟩]
def ca3_11 : SC := sCond (tg 104) (sAny oa3_18) sSkip
def ca3_12 : SC := sSeq (sReg (seqI oa3_17)) ca3_11
def ca3_13 : SC := sSeq ca3_10 ca3_12
def ca3_14 : SC := sSeq ca3_8 ca3_13
def ca3_15 : SC := sSeq (sReg (seqI oa3_10)) ca3_14
def ca3_16 : SC := sSeq (sAny oa3_9) ca3_15
def oa3_19 : List IS := [ip 118 (pBin .eql (tg 43) (cv (.int .i64 2))),
  ip 117 (pMov (tg 118))]
@[simp] def oa3_19_ap := ops_rule (c := oa3_19) rfl
def oa3_20 : List IS := [ip 119 (pFaddr 5 (tg 5)),
  il 120 (tg 119) (mLoad1 (tg 119))]
def oa3_21 : List IS := [ip 121 (pMov (tg 0)),
  ip 122 (pMov (tg 7)),
  im 3 123 (mCall 21 [(tg 121), (tg 122)])]
def oa3_22 : List IS := [ip 4 (pMov (cv (.int .i64 0)))]
def ca3_17 : SC := sSeq (sReg (seqI oa3_22)) sRet
def ca3_18 : SC := sSeq (sReg (seqI oa3_21)) ca3_17
def ca3_19 : SC := sCond (tg 120) ca3_18 sSkip
def ca3_20 : SC := sSeq (sReg (seqI oa3_20)) ca3_19
def oa3_23 : List IS := [ip 124 (pMov (tg 0)),
  il 125 (tg 6) (mLoadN 6 (tg 6)),
  il 126 (tg 5) (mLoadN 6 (tg 5)),
  ip 127 (pMov (tg 1)),
  ip 128 (pMov (tg 7)),
  im 3 129 (mCall 22 [(tg 124), (tg 125), (tg 126), (tg 127), (tg 128)])]
def ca3_21 : SC := sSeq ca3_20 (sReg (seqI oa3_23))
def oa3_24 : List IS := [ip 131 (pBin .eql (tg 43) (cv (.int .i64 3))),
  ip 130 (pMov (tg 131))]
@[simp] def oa3_24_ap := ops_rule (c := oa3_24) rfl
def oa3_25 : List IS := [ip 132 (pMov (tg 0)),
  ip 133 (pFaddr 2 (tg 5)),
  il 134 (tg 133) (mLoad1 (tg 133)),
  ip 135 (pBuild [(.int .i64 0), (.int .i64 0), (.int .i64 0), (.int .u64 0), (.int .i64 0)] [(1, 1, (cv (.int .i64 3))), (2, 1, (cv (.int .i64 (-1)))), (4, 1, (tg 134))]),
  im 3 136 (mCall 18 [(tg 132), (cv (.slice none 0 0)), (tg 135)])]
@[simp] def oa3_25_ap := ops_rule (c := oa3_25) rfl
def oa3_26 : List IS := [ip 138 (pBin .eql (tg 43) (cv (.int .i64 4))),
  ip 137 (pMov (tg 138))]
def oa3_27 : List DA := [⟨CI.pure (pMov (tg 0)), (some 139), none, 0, []⟩,
  ⟨CI.pure (pMov (tg 0)), (some 140), none, 1, []⟩,
  ⟨CI.pure (pNilck (tg 140)), (some 141), none, 2, []⟩,
  ⟨CI.pure (pFaddr 78 (tg 141)), (some 142), none, 3, []⟩,
  ⟨CI.pure (pFaddr 5 (tg 142)), (some 143), none, 4, []⟩,
  ⟨CI.load (tg 143) (mLoad1 (tg 143)), (some 144), none, 5, []⟩,
  ⟨CI.pure (pFaddr 3 (tg 5)), (some 145), none, 6, []⟩,
  ⟨CI.load (tg 145) (mLoad1 (tg 145)), (some 146), none, 7, []⟩,
  ⟨CI.mem 1 (mBslice 1 1 (rep 1 [(.int .u64 0)]) [(0, 1, (tg 146))]), (some 147), none, 8, []⟩,
  ⟨CI.mem 3 (mAppend 1 8 (tg 144) (tg 147)), (some 148), none, 9, []⟩,
  ⟨CI.pure (pNilck (tg 139)), (some 149), none, 10, []⟩,
  ⟨CI.pure (pFaddr 78 (tg 149)), (some 150), none, 11, []⟩,
  ⟨CI.pure (pFaddr 5 (tg 150)), (some 151), none, 12, []⟩,
  ⟨CI.mem 3 (mStore 1 (tg 151) (tg 148)), none, none, 13, []⟩]
def ca3_22 : SC := sCond (tg 137) (sAny oa3_27) sSkip
def ca3_23 : SC := sSeq (sReg (seqI oa3_26)) ca3_22
def ca3_24 : SC := sCond (tg 130) (sReg (seqI oa3_25)) ca3_23
@[simp] def ca3_24_ap := cond_rule (c := ca3_24) rfl
def ca3_25 : SC := sSeq (sReg (seqI oa3_24)) ca3_24
@[simp] def ca3_25_ap := seq_rule (c := ca3_25) rfl
def ca3_26 : SC := sCond (tg 117) ca3_21 ca3_25
@[simp] def ca3_26_ap := cond_rule (c := ca3_26) rfl
def ca3_27 : SC := sSeq (sReg (seqI oa3_19)) ca3_26
@[simp] def ca3_27_ap := seq_rule (c := ca3_27) rfl
def ca3_28 : SC := sCond (tg 44) ca3_16 ca3_27
@[simp] def ca3_28_ap := cond_rule (c := ca3_28) rfl
def ca3_29 : SC := sSeq (sReg (seqI oa3_8)) ca3_28
@[simp] def ca3_29_ap := seq_rule (c := ca3_29) rfl
def ca3_30 : SC := sBlock 0 ca3_29
@[simp] def ca3_30_ap := block_rule (c := ca3_30) rfl
def ca3_31 : SC := sSeq (sReg (seqI oa3_7)) ca3_30
@[simp] def ca3_31_ap := seq_rule (c := ca3_31) rfl
def oa3_28 : List IS := [ip 152 (pMov (tg 0)),
  ip 153 (pNilck (tg 152)),
  ip 154 (pFaddr 1 (tg 153)),
  il 155 (tg 154) (mLoad1 (tg 154)),
  ip 156 (pBin .add (tg 155) (cv (.int .i64 1))),
  ip 157 (pNilck (tg 152)),
  ip 158 (pFaddr 1 (tg 157)),
  im0 3 (mStore 1 (tg 158) (tg 156))]
@[simp] def oa3_28_ap := ops_rule (c := oa3_28) rfl
def oa3_29 : List IS := [ip 159 (pMov (tg 0)),
  ip 160 (pNilck (tg 159)),
  ip 161 (pFaddr 76 (tg 160)),
  im0 3 (mStore 1 (tg 161) (cv (.int .i64 0)))]
@[simp] def oa3_29_ap := ops_rule (c := oa3_29) rfl
def oa3_30 : List IS := [ip 162 (pMov (tg 0)),
  ip 163 (pNilck (tg 162)),
  ip 164 (pFaddr 77 (tg 163)),
  il 165 (tg 164) (mLoad1 (tg 164)),
  ip 166 (pBin .add (tg 165) (cv (.int .i64 1))),
  ip 167 (pNilck (tg 162)),
  ip 168 (pFaddr 77 (tg 167)),
  im0 3 (mStore 1 (tg 168) (tg 166))]
@[simp] def oa3_30_ap := ops_rule (c := oa3_30) rfl
def oa3_31 : List IS := [ip 4 (pMov (cv (.int .i64 0)))]
@[simp] def oa3_31_ap := ops_rule (c := oa3_31) rfl
def ca3_32 : SC := sSeq (sReg (seqI oa3_31)) sRet
@[simp] def ca3_32_ap := seq_rule (c := ca3_32) rfl
def ca3_33 : SC := sSeq (sReg (seqI oa3_30)) ca3_32
@[simp] def ca3_33_ap := seq_rule (c := ca3_33) rfl
def ca3_34 : SC := sSeq (sReg (seqI oa3_29)) ca3_33
@[simp] def ca3_34_ap := seq_rule (c := ca3_34) rfl
def ca3_35 : SC := sSeq (sReg (seqI oa3_28)) ca3_34
@[simp] def ca3_35_ap := seq_rule (c := ca3_35) rfl
def ca3_36 : SC := sSeq ca3_31 ca3_35
@[simp] def ca3_36_ap := seq_rule (c := ca3_36) rfl
def ca3_37 : SC := sSeq (sReg (seqI oa3_6)) ca3_36
@[simp] def ca3_37_ap := seq_rule (c := ca3_37) rfl
def ca3_38 : SC := sSeq (sAny oa3_5) ca3_37
@[simp] def ca3_38_ap := seq_rule (c := ca3_38) rfl
def ca3_39 : SC := sSeq ca3_3 ca3_38
@[simp] def ca3_39_ap := seq_rule (c := ca3_39) rfl
def ca3_40 : SC := sSeq (sReg (seqI oa3_2)) ca3_39
@[simp] def ca3_40_ap := seq_rule (c := ca3_40) rfl
def ca3_41 : SC := sSeq (sReg (seqI oa3_1)) ca3_40
@[simp] def ca3_41_ap := seq_rule (c := ca3_41) rfl
def da3 : DFn := ⟨ca3_41, 169, [.t 4]⟩
theorem da3_ok : fnOf Try.prog 8 = some da3 := by kernel_rfl
def oa4_1 : List IS := [im 1 2 (mAlloc [(.slice none 0 0), (.slice none 0 0), (.slice none 0 0), (.slice none 0 0), (.slice none 0 0), (.slice none 0 0), (.int .i64 0), (.int .i64 0), (.int .i64 0)])]
@[simp] def oa4_1_ap := ops_rule (c := oa4_1) rfl
def oa4_2 : List IS := [ip 4 (pMov (tg 0)),
  ip 5 (pNilck (tg 4)),
  ip 6 (pFaddr 78 (tg 5)),
  il 7 (tg 6) (mLoadN 9 (tg 6)),
  im 3 8 (mCall 23 [(tg 7)]),
  im 1 3 (mAlloc [(.slice none 0 0), (.slice none 0 0), (.slice none 0 0), (.slice none 0 0), (.slice none 0 0), (.slice none 0 0), (.int .i64 0), (.int .i64 0), (.int .i64 0)]),
  im0 3 (mStore 9 (tg 3) (tg 8))]
@[simp] def oa4_2_ap := ops_rule (c := oa4_2) rfl
def oa4_3 : List IS := [ip 10 (pMov (tg 0)),
  im 3 11 (mCall 25 [(tg 10)]),
  im 3 12 (mCall 7 [(tg 11)]),
  im 3 13 (mCall 24 [(tg 12)]),
  ip 9 (pMov (tg 13)),
  ip 14 (pExtract (tg 9) 0),
  ip 15 (pExtract (tg 9) 1),
  ip 16 (pFaddr 6 (tg 3)),
  im0 3 (mStore 1 (tg 16) (tg 14)),
  ip 17 (pFaddr 7 (tg 3)),
  im0 3 (mStore 1 (tg 17) (tg 15))]
@[simp] def oa4_3_ap := ops_rule (c := oa4_3) rfl
def oa4_4 : List IS := [il 18 (tg 3) (mLoadN 9 (tg 3)),
  im0 3 (mStore 9 (tg 2) (tg 18))]
@[simp] def oa4_4_ap := ops_rule (c := oa4_4) rfl
def ca4_1 : SC := sSeq (sReg (seqI oa4_4)) sRet
@[simp] def ca4_1_ap := seq_rule (c := ca4_1) rfl
def ca4_2 : SC := sSeq (sReg (seqI oa4_3)) ca4_1
@[simp] def ca4_2_ap := seq_rule (c := ca4_2) rfl
def ca4_3 : SC := sSeq (sReg (seqI oa4_2)) ca4_2
@[simp] def ca4_3_ap := seq_rule (c := ca4_3) rfl
def ca4_4 : SC := sSeq (sReg (seqI oa4_1)) ca4_3
@[simp] def ca4_4_ap := seq_rule (c := ca4_4) rfl
def da4 : DFn := ⟨ca4_4, 19, [.cell 2 9]⟩
theorem da4_ok : fnOf Try.prog 9 = some da4 := by kernel_rfl
def oa5_1 : List IS := [ip 2 (pMov (cv (.slice none 0 0))),
  ip 3 (pMov (cv (.int .i64 0))),
  ip 4 (pMov (cv (.int .i64 0)))]
@[simp] def oa5_1_ap := ops_rule (c := oa5_1) rfl
def oa5_2 : List IS := [ip 5 (pMov (tg 0)),
  im 3 6 (mCall 28 [(tg 5), (cv (.func (.func 29) #[] #[]))]),
  ip 7 (pExtract (tg 6) 0),
  ip 8 (pExtract (tg 6) 1),
  ip 9 (pExtract (tg 6) 2),
  ip 2 (pMov (tg 7)),
  ip 3 (pMov (tg 8)),
  ip 4 (pMov (tg 9))]
@[simp] def oa5_2_ap := ops_rule (c := oa5_2) rfl
def ca5_1 : SC := sSeq (sReg (seqI oa5_2)) sRet
@[simp] def ca5_1_ap := seq_rule (c := ca5_1) rfl
def ca5_2 : SC := sSeq (sReg (seqI oa5_1)) ca5_1
@[simp] def ca5_2_ap := seq_rule (c := ca5_2) rfl
def da5 : DFn := ⟨ca5_2, 10, [.t 2, .t 3, .t 4]⟩
theorem da5_ok : fnOf Try.prog 14 = some da5 := by kernel_rfl
def oa6_1 : List IS := [im 1 3 (mBox (tg 1)),
  im 1 4 (mAlloc [(.int .i64 0), (.int .i64 0), (.int .i64 0), (.int .u64 0), (.bool false), (.bool false)]),
  ip 5 (pMov (cv (.bool false)))]
@[simp] def oa6_1_ap := ops_rule (c := oa6_1) rfl
def oa6_2 : List IS := [ip 8 (pFaddr 0 (tg 3)),
  il 9 (tg 8) (mLoad1 (tg 8))]
@[simp] def oa6_2_ap := ops_rule (c := oa6_2) rfl
def oa6_3 : List IS := [ip 11 (pBin .eql (tg 9) (cv (.int .i64 30))),
  ip 10 (pMov (tg 11))]
@[simp] def oa6_3_ap := ops_rule (c := oa6_3) rfl
def oa6_4 : List IS := [ip 12 (pMov (tg 0)),
  ip 13 (pBuild [(.int .i64 0), (.int .i64 0), (.int .i64 0), (.int .u64 0), (.bool false), (.bool false)] [(0, 1, (cv (.int .i64 3))), (2, 1, (cv (.int .i64 14)))]),
  im 3 14 (mCall 30 [(tg 12), (tg 13)]),
  im0 3 (mStore 6 (tg 4) (tg 14)),
  ip 5 (pMov (cv (.bool false)))]
@[simp] def oa6_4_ap := ops_rule (c := oa6_4) rfl
def ca6_1 : SC := sSeq (sReg (seqI oa6_4)) sRet
@[simp] def ca6_1_ap := seq_rule (c := ca6_1) rfl
def oa6_5 : List IS := [ip 16 (pBin .eql (tg 9) (cv (.int .i64 31))),
  ip 15 (pMov (tg 16))]
@[simp] def oa6_5_ap := ops_rule (c := oa6_5) rfl
def oa6_6 : List IS := [ip 17 (pMov (tg 0)),
  ip 18 (pBuild [(.int .i64 0), (.int .i64 0), (.int .i64 0), (.int .u64 0), (.bool false), (.bool false)] [(0, 1, (cv (.int .i64 3))), (2, 1, (cv (.int .i64 15)))]),
  im 3 19 (mCall 30 [(tg 17), (tg 18)]),
  im0 3 (mStore 6 (tg 4) (tg 19)),
  ip 5 (pMov (cv (.bool false)))]
@[simp] def oa6_6_ap := ops_rule (c := oa6_6) rfl
def ca6_2 : SC := sSeq (sReg (seqI oa6_6)) sRet
@[simp] def ca6_2_ap := seq_rule (c := ca6_2) rfl
def oa6_7 : List IS := [ip 21 (pBin .eql (tg 9) (cv (.int .i64 33))),
  ip 20 (pMov (tg 21))]
@[simp] def oa6_7_ap := ops_rule (c := oa6_7) rfl
def oa6_8 : List DA := [⟨CI.pure (pMov (tg 0)), (some 22), none, 0, []⟩,
  ⟨CI.pure (pFaddr 4 (tg 3)), (some 23), none, 1, []⟩,
  ⟨CI.load (tg 23) (mLoad1 (tg 23)), (some 24), none, 2, []⟩,
  ⟨CI.pure (pNilck (tg 22)), (some 25), none, 3, []⟩,
  ⟨CI.pure (pFaddr 2 (tg 25)), (some 26), none, 4, []⟩,
  ⟨CI.pure (pFaddr 0 (tg 26)), (some 27), none, 5, []⟩,
  ⟨CI.pure (pIaddrA 32 1 (tg 27) (tg 24)), (some 28), none, 6, []⟩,
  ⟨CI.load (tg 28) (mLoad1 (tg 28)), (some 29), none, 7, []⟩,
  ⟨CI.pure (pBuild [(.int .i64 0), (.int .i64 0), (.int .i64 0), (.int .u64 0), (.bool false), (.bool false)] [(0, 1, (cv (.int .i64 4))), (3, 1, (tg 29))]), (some 30), none, 8, []⟩,
  ⟨CI.mem 3 (mStore 6 (tg 4) (tg 30)), none, none, 9, []⟩,
  ⟨CI.pure (pMov (cv (.bool false))), (some 5), none, 10, []⟩]
@[simp] def oa6_8_ap := das_rule (c := oa6_8) rfl
def ca6_3 : SC := sSeq (sAny oa6_8) sRet
@[simp] def ca6_3_ap := seq_rule (c := ca6_3) rfl
def oa6_9 : List IS := [ip 32 (pBin .eql (tg 9) (cv (.int .i64 34))),
  ip 31 (pMov (tg 32))]
@[simp] def oa6_9_ap := ops_rule (c := oa6_9) rfl
def oa6_10 : List IS := [ip 33 (pBuild [(.int .i64 0), (.int .i64 0), (.int .i64 0), (.int .u64 0), (.bool false), (.bool false)] [(0, 1, (cv (.int .i64 5)))]),
  im0 3 (mStore 6 (tg 4) (tg 33)),
  ip 5 (pMov (cv (.bool false)))]
@[simp] def oa6_10_ap := ops_rule (c := oa6_10) rfl
def ca6_4 : SC := sSeq (sReg (seqI oa6_10)) sRet
@[simp] def ca6_4_ap := seq_rule (c := ca6_4) rfl
def ca6_5 : SC := sCond (tg 31) ca6_4 sSkip
@[simp] def ca6_5_ap := cond_rule (c := ca6_5) rfl
def ca6_6 : SC := sSeq (sReg (seqI oa6_9)) ca6_5
@[simp] def ca6_6_ap := seq_rule (c := ca6_6) rfl
def ca6_7 : SC := sCond (tg 20) ca6_3 ca6_6
@[simp] def ca6_7_ap := cond_rule (c := ca6_7) rfl
def ca6_8 : SC := sSeq (sReg (seqI oa6_7)) ca6_7
@[simp] def ca6_8_ap := seq_rule (c := ca6_8) rfl
def ca6_9 : SC := sCond (tg 15) ca6_2 ca6_8
@[simp] def ca6_9_ap := cond_rule (c := ca6_9) rfl
def ca6_10 : SC := sSeq (sReg (seqI oa6_5)) ca6_9
@[simp] def ca6_10_ap := seq_rule (c := ca6_10) rfl
def ca6_11 : SC := sCond (tg 10) ca6_1 ca6_10
@[simp] def ca6_11_ap := cond_rule (c := ca6_11) rfl
def ca6_12 : SC := sSeq (sReg (seqI oa6_3)) ca6_11
@[simp] def ca6_12_ap := seq_rule (c := ca6_12) rfl
def ca6_13 : SC := sBlock 0 ca6_12
@[simp] def ca6_13_ap := block_rule (c := ca6_13) rfl
def ca6_14 : SC := sSeq (sReg (seqI oa6_2)) ca6_13
@[simp] def ca6_14_ap := seq_rule (c := ca6_14) rfl
def oa6_11 : List IS := [ip 34 (pFaddr 0 (tg 3)),
  il 35 (tg 34) (mLoad1 (tg 34)),
  ip 36 (pBin .lss (tg 35) (cv (.int .i64 22))),
  ip 37 (pMov (tg 36)),
  gd 37 false (some 38) (ip 38 (pFaddr 0 (tg 3))),
  gd 37 false (some 39) (il 39 (tg 38) (mLoad1 (tg 38))),
  gd 37 false (some 40) (ip 40 (pBin .gtr (tg 39) (cv (.int .i64 29)))),
  gd 37 false (some 41) (ip 41 (pMov (tg 40))),
  gd 41 true (some 42) (ip 42 (pFaddr 0 (tg 3))),
  gd 41 true (some 43) (il 43 (tg 42) (mLoad1 (tg 42))),
  gd 41 true (some 44) (ip 44 (pBin .lss (tg 43) (cv (.int .i64 35)))),
  gd 37 false (some 45) (ip 45 (pPick (tg 41) (tg 44) (cv (.bool false)))),
  ip 46 (pPick (tg 37) (cv (.bool true)) (tg 45))]
@[simp] def oa6_11_ap := ops_rule (c := oa6_11) rfl
def oa6_12 : List IS := [il 47 (tg 4) (mLoadN 6 (tg 4)),
  im0 3 (mStore 6 (tg 4) (tg 47)),
  ip 5 (pMov (cv (.bool true)))]
@[simp] def oa6_12_ap := ops_rule (c := oa6_12) rfl
def ca6_15 : SC := sSeq (sReg (seqI oa6_12)) sRet
@[simp] def ca6_15_ap := seq_rule (c := ca6_15) rfl
def ca6_16 : SC := sCond (tg 46) ca6_15 sSkip
@[simp] def ca6_16_ap := cond_rule (c := ca6_16) rfl
def ca6_17 : SC := sSeq (sReg (seqI oa6_11)) ca6_16
@[simp] def ca6_17_ap := seq_rule (c := ca6_17) rfl
def oa6_13 : List IS := [ip 49 (pMov (tg 0)),
  il 50 (tg 3) (mLoadN 6 (tg 3)),
  im 3 51 (mCall 31 [(tg 49), (tg 50)]),
  ip 48 (pMov (tg 51)),
  ip 52 (pExtract (tg 48) 0),
  ip 53 (pExtract (tg 48) 1),
  ip 6 (pMov (tg 52)),
  ip 7 (pMov (tg 53))]
@[simp] def oa6_13_ap := ops_rule (c := oa6_13) rfl
def oa6_14 : List IS := [ip 54 (pMov (tg 7)),
  ip 55 (pUn .not (tg 54))]
@[simp] def oa6_14_ap := ops_rule (c := oa6_14) rfl
def oa6_15 : List IS := [ip 56 (pBuild [(.int .i64 0), (.int .i64 0), (.int .i64 0), (.int .u64 0), (.bool false), (.bool false)] [(0, 1, (cv (.int .i64 7)))]),
  im0 3 (mStore 6 (tg 4) (tg 56)),
  ip 5 (pMov (cv (.bool false)))]
@[simp] def oa6_15_ap := ops_rule (c := oa6_15) rfl
def ca6_18 : SC := sSeq (sReg (seqI oa6_15)) sRet
@[simp] def ca6_18_ap := seq_rule (c := ca6_18) rfl
def ca6_19 : SC := sCond (tg 55) ca6_18 sSkip
@[simp] def ca6_19_ap := cond_rule (c := ca6_19) rfl
def ca6_20 : SC := sSeq (sReg (seqI oa6_14)) ca6_19
@[simp] def ca6_20_ap := seq_rule (c := ca6_20) rfl
def oa6_16 : List IS := [ip 57 (pMov (tg 6)),
  ip 58 (pBuild [(.int .i64 0), (.int .i64 0), (.int .i64 0), (.int .u64 0), (.bool false), (.bool false)] [(0, 1, (cv (.int .i64 1))), (1, 1, (tg 57)), (2, 1, (cv (.int .i64 11)))]),
  im0 3 (mStore 6 (tg 4) (tg 58))]
@[simp] def oa6_16_ap := ops_rule (c := oa6_16) rfl
def oa6_17 : List IS := [ip 59 (pFaddr 0 (tg 3)),
  il 60 (tg 59) (mLoad1 (tg 59)),
  ip 61 (pBin .geq (tg 60) (cv (.int .i64 35)))]
@[simp] def oa6_17_ap := ops_rule (c := oa6_17) rfl
def oa6_18 : List IS := [ip 62 (pMov (tg 0)),
  il 63 (tg 3) (mLoadN 6 (tg 3)),
  il 64 (tg 4) (mLoadN 6 (tg 4)),
  im 3 65 (mCall 32 [(tg 63), (tg 64)]),
  im 3 66 (mCall 30 [(tg 62), (tg 65)]),
  im0 3 (mStore 6 (tg 4) (tg 66)),
  ip 5 (pMov (cv (.bool false)))]
@[simp] def oa6_18_ap := ops_rule (c := oa6_18) rfl
def ca6_21 : SC := sSeq (sReg (seqI oa6_18)) sRet
@[simp] def ca6_21_ap := seq_rule (c := ca6_21) rfl
def ca6_22 : SC := sCond (tg 61) ca6_21 sSkip
@[simp] def ca6_22_ap := cond_rule (c := ca6_22) rfl
def ca6_23 : SC := sSeq (sReg (seqI oa6_17)) ca6_22
@[simp] def ca6_23_ap := seq_rule (c := ca6_23) rfl
def oa6_19 : List IS := [ip 67 (pFaddr 0 (tg 3)),
  il 68 (tg 67) (mLoad1 (tg 67))]
@[simp] def oa6_19_ap := ops_rule (c := oa6_19) rfl
def oa6_20 : List IS := [ip 70 (pBin .eql (tg 68) (cv (.int .i64 23))),
  ip 69 (pMov (tg 70))]
@[simp] def oa6_20_ap := ops_rule (c := oa6_20) rfl
def oa6_21 : List IS := [ip 71 (pBin .eql (tg 68) (cv (.int .i64 25))),
  ip 69 (pMov (tg 71))]
@[simp] def oa6_21_ap := ops_rule (c := oa6_21) rfl
def oa6_22 : List IS := [ip 72 (pBin .eql (tg 68) (cv (.int .i64 28))),
  ip 69 (pMov (tg 72))]
@[simp] def oa6_22_ap := ops_rule (c := oa6_22) rfl
def oa6_23 : List IS := [ip 73 (pBin .eql (tg 68) (cv (.int .i64 29))),
  ip 69 (pMov (tg 73))]
@[simp] def oa6_23_ap := ops_rule (c := oa6_23) rfl
def ca6_24 : SC := sCond (tg 69) sSkip (sReg (seqI oa6_23))
@[simp] def ca6_24_ap := cond_rule (c := ca6_24) rfl
def ca6_25 : SC := sSeq (sReg (seqI oa6_22)) ca6_24
@[simp] def ca6_25_ap := seq_rule (c := ca6_25) rfl
def ca6_26 : SC := sCond (tg 69) sSkip ca6_25
@[simp] def ca6_26_ap := cond_rule (c := ca6_26) rfl
def ca6_27 : SC := sSeq (sReg (seqI oa6_21)) ca6_26
@[simp] def ca6_27_ap := seq_rule (c := ca6_27) rfl
def ca6_28 : SC := sCond (tg 69) sSkip ca6_27
@[simp] def ca6_28_ap := cond_rule (c := ca6_28) rfl
def ca6_29 : SC := sSeq (sReg (seqI oa6_20)) ca6_28
@[simp] def ca6_29_ap := seq_rule (c := ca6_29) rfl
def oa6_24 : List DA := [⟨CI.pure (pMov (tg 0)), (some 74), none, 0, []⟩,
  ⟨CI.pure (pFaddr 1 (tg 3)), (some 75), none, 1, []⟩,
  ⟨CI.load (tg 75) (mLoad1 (tg 75)), (some 76), none, 2, []⟩,
  ⟨CI.pure (pNilck (tg 74)), (some 77), none, 3, []⟩,
  ⟨CI.pure (pFaddr 2 (tg 77)), (some 78), none, 4, []⟩,
  ⟨CI.pure (pFaddr 0 (tg 78)), (some 79), none, 5, []⟩,
  ⟨CI.pure (pIaddrA 32 1 (tg 79) (tg 76)), (some 80), none, 6, []⟩,
  ⟨CI.load (tg 80) (mLoad1 (tg 80)), (some 81), none, 7, []⟩,
  ⟨CI.pure (pFaddr 0 (tg 4)), (some 82), none, 8, []⟩,
  ⟨CI.mem 3 (mStore 1 (tg 82) (cv (.int .i64 2))), none, none, 9, [2, 7]⟩,
  ⟨CI.pure (pFaddr 3 (tg 4)), (some 83), none, 10, []⟩,
  ⟨CI.mem 3 (mStore 1 (tg 83) (tg 81)), none, none, 11, []⟩]
@[simp] def oa6_24_ap := das_rule (c := oa6_24) rfl
def ca6_30 : SC := sCond (tg 69) (sAny oa6_24) sSkip
@[simp] def ca6_30_ap := cond_rule (c := ca6_30) rfl
def ca6_31 : SC := sSeq ca6_29 ca6_30
@[simp] def ca6_31_ap := seq_rule (c := ca6_31) rfl
def ca6_32 : SC := sBlock 1 ca6_31
@[simp] def ca6_32_ap := block_rule (c := ca6_32) rfl
def ca6_33 : SC := sSeq (sReg (seqI oa6_19)) ca6_32
@[simp] def ca6_33_ap := seq_rule (c := ca6_33) rfl
def oa6_25 : List IS := [ip 84 (pFaddr 0 (tg 3)),
  il 85 (tg 84) (mLoad1 (tg 84))]
@[simp] def oa6_25_ap := ops_rule (c := oa6_25) rfl
def oa6_26 : List IS := [ip 87 (pBin .eql (tg 85) (cv (.int .i64 24))),
  ip 86 (pMov (tg 87))]
@[simp] def oa6_26_ap := ops_rule (c := oa6_26) rfl
def oa6_27 : List IS := [ip 88 (pBin .eql (tg 85) (cv (.int .i64 27))),
  ip 86 (pMov (tg 88))]
@[simp] def oa6_27_ap := ops_rule (c := oa6_27) rfl
def ca6_34 : SC := sCond (tg 86) sSkip (sReg (seqI oa6_27))
@[simp] def ca6_34_ap := cond_rule (c := ca6_34) rfl
def ca6_35 : SC := sSeq (sReg (seqI oa6_26)) ca6_34
@[simp] def ca6_35_ap := seq_rule (c := ca6_35) rfl
def oa6_28 : List IS := [ip 89 (pFaddr 2 (tg 4)),
  im0 3 (mStore 1 (tg 89) (cv (.int .i64 12)))]
@[simp] def oa6_28_ap := ops_rule (c := oa6_28) rfl
def oa6_29 : List IS := [ip 91 (pBin .eql (tg 85) (cv (.int .i64 25))),
  ip 90 (pMov (tg 91))]
@[simp] def oa6_29_ap := ops_rule (c := oa6_29) rfl
def oa6_30 : List IS := [ip 92 (pBin .eql (tg 85) (cv (.int .i64 29))),
  ip 90 (pMov (tg 92))]
@[simp] def oa6_30_ap := ops_rule (c := oa6_30) rfl
def ca6_36 : SC := sCond (tg 90) sSkip (sReg (seqI oa6_30))
@[simp] def ca6_36_ap := cond_rule (c := ca6_36) rfl
def ca6_37 : SC := sSeq (sReg (seqI oa6_29)) ca6_36
@[simp] def ca6_37_ap := seq_rule (c := ca6_37) rfl
def oa6_31 : List IS := [ip 93 (pFaddr 2 (tg 4)),
  im0 3 (mStore 1 (tg 93) (cv (.int .i64 13)))]
@[simp] def oa6_31_ap := ops_rule (c := oa6_31) rfl
def ca6_38 : SC := sCond (tg 90) (sReg (seqI oa6_31)) sSkip
@[simp] def ca6_38_ap := cond_rule (c := ca6_38) rfl
def ca6_39 : SC := sSeq ca6_37 ca6_38
@[simp] def ca6_39_ap := seq_rule (c := ca6_39) rfl
def ca6_40 : SC := sCond (tg 86) (sReg (seqI oa6_28)) ca6_39
@[simp] def ca6_40_ap := cond_rule (c := ca6_40) rfl
def ca6_41 : SC := sSeq ca6_35 ca6_40
@[simp] def ca6_41_ap := seq_rule (c := ca6_41) rfl
def ca6_42 : SC := sBlock 2 ca6_41
@[simp] def ca6_42_ap := block_rule (c := ca6_42) rfl
def ca6_43 : SC := sSeq (sReg (seqI oa6_25)) ca6_42
@[simp] def ca6_43_ap := seq_rule (c := ca6_43) rfl
def oa6_32 : List IS := [ip 94 (pFaddr 0 (tg 3)),
  il 95 (tg 94) (mLoad1 (tg 94)),
  ip 96 (pBin .geq (tg 95) (cv (.int .i64 26))),
  ip 97 (pFaddr 4 (tg 4)),
  im0 3 (mStore 1 (tg 97) (tg 96))]
@[simp] def oa6_32_ap := ops_rule (c := oa6_32) rfl
def oa6_33 : List IS := [ip 98 (pFaddr 4 (tg 4)),
  il 99 (tg 98) (mLoad1 (tg 98)),
  ip 100 (pMov (tg 99)),
  gd 100 true (some 101) (ip 101 (pFaddr 0 (tg 4))),
  gd 100 true (some 102) (il 102 (tg 101) (mLoad1 (tg 101))),
  gd 100 true (some 103) (ip 103 (pBin .eql (tg 102) (cv (.int .i64 2)))),
  ip 104 (pPick (tg 100) (tg 103) (cv (.bool false))),
  ip 105 (pMov (tg 104)),
  gd 105 true (some 106) (ip 106 (pMov (tg 0))),
  gd 105 true (some 107) (ip 107 (pNilck (tg 106))),
  gd 105 true (some 108) (ip 108 (pFaddr 72 (tg 107))),
  gd 105 true (some 109) (il 109 (tg 108) (mLoad1 (tg 108))),
  gd 105 true (some 110) (ip 110 (pUn .not (tg 109))),
  gd 105 true (some 111) (ip 111 (pMov (tg 110))),
  gd 111 false (some 112) (ip 112 (pMov (tg 0))),
  gd 111 false (some 113) (ip 113 (pNilck (tg 112))),
  gd 111 false (some 114) (ip 114 (pFaddr 73 (tg 113))),
  gd 111 false (some 115) (il 115 (tg 114) (mLoad1 (tg 114))),
  gd 111 false (some 116) (ip 116 (pMov (tg 6))),
  gd 111 false (some 117) (ip 117 (pBin .neq (tg 115) (tg 116))),
  gd 105 true (some 118) (ip 118 (pPick (tg 111) (cv (.bool true)) (tg 117))),
  ip 119 (pPick (tg 105) (tg 118) (cv (.bool false)))]
@[simp] def oa6_33_ap := ops_rule (c := oa6_33) rfl
def oa6_34 : List IS := [il 120 (tg 4) (mLoadN 6 (tg 4)),
  im0 3 (mStore 6 (tg 4) (tg 120)),
  ip 5 (pMov (cv (.bool true)))]
@[simp] def oa6_34_ap := ops_rule (c := oa6_34) rfl
def ca6_44 : SC := sSeq (sReg (seqI oa6_34)) sRet
@[simp] def ca6_44_ap := seq_rule (c := ca6_44) rfl
def ca6_45 : SC := sCond (tg 119) ca6_44 sSkip
@[simp] def ca6_45_ap := cond_rule (c := ca6_45) rfl
def ca6_46 : SC := sSeq (sReg (seqI oa6_33)) ca6_45
@[simp] def ca6_46_ap := seq_rule (c := ca6_46) rfl
def oa6_35 : List IS := [ip 121 (pMov (tg 0)),
  il 122 (tg 4) (mLoadN 6 (tg 4)),
  im 3 123 (mCall 30 [(tg 121), (tg 122)]),
  im0 3 (mStore 6 (tg 4) (tg 123)),
  ip 5 (pMov (cv (.bool false)))]
@[simp] def oa6_35_ap := ops_rule (c := oa6_35) rfl
def ca6_47 : SC := sSeq (sReg (seqI oa6_35)) sRet
@[simp] def ca6_47_ap := seq_rule (c := ca6_47) rfl
def ca6_48 : SC := sSeq ca6_46 ca6_47
@[simp] def ca6_48_ap := seq_rule (c := ca6_48) rfl
def ca6_49 : SC := sSeq (sReg (seqI oa6_32)) ca6_48
@[simp] def ca6_49_ap := seq_rule (c := ca6_49) rfl
def ca6_50 : SC := sSeq ca6_43 ca6_49
@[simp] def ca6_50_ap := seq_rule (c := ca6_50) rfl
def ca6_51 : SC := sSeq ca6_33 ca6_50
@[simp] def ca6_51_ap := seq_rule (c := ca6_51) rfl
def ca6_52 : SC := sSeq ca6_23 ca6_51
@[simp] def ca6_52_ap := seq_rule (c := ca6_52) rfl
def ca6_53 : SC := sSeq (sReg (seqI oa6_16)) ca6_52
@[simp] def ca6_53_ap := seq_rule (c := ca6_53) rfl
def ca6_54 : SC := sSeq ca6_20 ca6_53
@[simp] def ca6_54_ap := seq_rule (c := ca6_54) rfl
def ca6_55 : SC := sSeq (sReg (seqI oa6_13)) ca6_54
@[simp] def ca6_55_ap := seq_rule (c := ca6_55) rfl
def ca6_56 : SC := sSeq ca6_17 ca6_55
@[simp] def ca6_56_ap := seq_rule (c := ca6_56) rfl
def ca6_57 : SC := sSeq ca6_14 ca6_56
@[simp] def ca6_57_ap := seq_rule (c := ca6_57) rfl
def ca6_58 : SC := sSeq (sReg (seqI oa6_1)) ca6_57
@[simp] def ca6_58_ap := seq_rule (c := ca6_58) rfl
def da6 : DFn := ⟨ca6_58, 124, [.cell 4 6, .t 5]⟩
theorem da6_ok : fnOf Try.prog 15 = some da6 := by kernel_rfl
def oa7_1 : List IS := [ip 2 (pMov (cv (.bool false)))]
@[simp] def oa7_1_ap := ops_rule (c := oa7_1) rfl
def oa7_2 : List DA := [⟨CI.pure (pMov (tg 0)), (some 3), none, 0, []⟩,
  ⟨CI.pure (pNilck (tg 3)), (some 4), none, 1, []⟩,
  ⟨CI.pure (pFaddr 87 (tg 4)), (some 5), none, 2, []⟩,
  ⟨CI.load (tg 5) (mLoad1 (tg 5)), (some 6), none, 3, []⟩,
  ⟨CI.pure (pBin .geq (tg 6) (cv (.int .i64 0))), (some 7), none, 4, []⟩,
  ⟨CI.pure (pMov (tg 7)), (some 8), none, 5, []⟩,
  ⟨CI.pure (pMov (tg 0)), (some 9), (some (8, true)), 6, []⟩,
  ⟨CI.pure (pNilck (tg 9)), (some 10), (some (8, true)), 7, []⟩,
  ⟨CI.pure (pFaddr 77 (tg 10)), (some 11), (some (8, true)), 8, []⟩,
  ⟨CI.load (tg 11) (mLoad1 (tg 11)), (some 12), (some (8, true)), 9, []⟩,
  ⟨CI.pure (pMov (tg 0)), (some 13), (some (8, true)), 10, []⟩,
  ⟨CI.pure (pNilck (tg 13)), (some 14), (some (8, true)), 11, []⟩,
  ⟨CI.pure (pFaddr 87 (tg 14)), (some 15), (some (8, true)), 12, []⟩,
  ⟨CI.load (tg 15) (mLoad1 (tg 15)), (some 16), (some (8, true)), 13, []⟩,
  ⟨CI.pure (pBin .geq (tg 12) (tg 16)), (some 17), (some (8, true)), 14, []⟩,
  ⟨CI.pure (pPick (tg 8) (tg 17) (cv (.bool false))), (some 18), none, 15, []⟩,
  ⟨CI.pure (pMov (tg 18)), (some 2), none, 16, []⟩]
@[simp] def oa7_2_ap := das_rule (c := oa7_2) rfl
def ca7_1 : SC := sSeq (sAny oa7_2) sRet
@[simp] def ca7_1_ap := seq_rule (c := ca7_1) rfl
def ca7_2 : SC := sSeq (sReg (seqI oa7_1)) ca7_1
@[simp] def ca7_2_ap := seq_rule (c := ca7_2) rfl
def da7 : DFn := ⟨ca7_2, 19, [.t 2]⟩
theorem da7_ok : fnOf Try.prog 16 = some da7 := by kernel_rfl
def oa8_1 : List IS := [im 1 3 (mBox (tg 1)),
  ip 4 (pMov (cv (.int .i64 0)))]
@[simp] def oa8_1_ap := ops_rule (c := oa8_1) rfl
def oa8_2 : List IS := [ip 10 (pMov (tg 0)),
  ip 11 (pNilck (tg 10)),
  ip 12 (pFaddr 1 (tg 11)),
  il 13 (tg 12) (mLoad1 (tg 12)),
  ip 14 (pBin .add (tg 13) (cv (.int .i64 1))),
  ip 5 (pMov (tg 14))]
@[simp] def oa8_2_ap := ops_rule (c := oa8_2) rfl
def oa8_3 : List DA := [⟨CI.pure (pMov (tg 0)), (some 15), none, 0, []⟩,
  ⟨CI.pure (pNilck (tg 15)), (some 16), none, 1, []⟩,
  ⟨CI.pure (pFaddr 1 (tg 16)), (some 17), none, 2, []⟩,
  ⟨CI.load (tg 17) (mLoad1 (tg 17)), (some 18), none, 3, []⟩,
  ⟨CI.pure (pFaddr 4 (tg 3)), (some 19), none, 4, []⟩,
  ⟨CI.load (tg 19) (mLoad1 (tg 19)), (some 20), none, 5, []⟩,
  ⟨CI.pure (pBin .add (tg 18) (tg 20)), (some 21), none, 6, []⟩,
  ⟨CI.pure (pMov (tg 21)), (some 6), none, 7, []⟩]
@[simp] def oa8_3_ap := das_rule (c := oa8_3) rfl
def oa8_4 : List IS := [ip 22 (pFaddr 0 (tg 3)),
  il 23 (tg 22) (mLoad1 (tg 22))]
@[simp] def oa8_4_ap := ops_rule (c := oa8_4) rfl
def oa8_5 : List IS := [ip 56 (pBin .eql (tg 23) (cv (.int .i64 18))),
  ip 55 (pMov (tg 56))]
@[simp] def oa8_5_ap := ops_rule (c := oa8_5) rfl
def oa8_6 : List IS := [ip 57 (pMov (tg 6)),
  ip 4 (pMov (tg 57))]
@[simp] def oa8_6_ap := ops_rule (c := oa8_6) rfl
def ca8_1 : SC := sSeq (sReg (seqI oa8_6)) sRet
@[simp] def ca8_1_ap := seq_rule (c := ca8_1) rfl
def oa8_7 : List IS := [ip 59 (pBin .eql (tg 23) (cv (.int .i64 19))),
  ip 58 (pMov (tg 59))]
@[simp] def oa8_7_ap := ops_rule (c := oa8_7) rfl
def oa8_8 : List DA := [⟨CI.pure (pMov (tg 0)), (some 60), none, 0, []⟩,
  ⟨CI.pure (pMov (tg 0)), (some 61), none, 1, []⟩,
  ⟨CI.pure (pNilck (tg 61)), (some 62), none, 2, []⟩,
  ⟨CI.pure (pFaddr 71 (tg 62)), (some 63), none, 3, []⟩,
  ⟨CI.load (tg 63) (mLoad1 (tg 63)), (some 64), none, 4, []⟩,
  ⟨CI.pure (pMov (tg 0)), (some 65), none, 5, []⟩,
  ⟨CI.pure (pNilck (tg 65)), (some 66), none, 6, []⟩,
  ⟨CI.pure (pFaddr 66 (tg 66)), (some 67), none, 7, []⟩,
  ⟨CI.pure (pFaddr 4 (tg 67)), (some 68), none, 8, []⟩,
  ⟨CI.load (tg 68) (mLoad1 (tg 68)), (some 69), none, 9, []⟩,
  ⟨CI.mem 3 (mCall 33 [(tg 64), (tg 69)]), (some 70), none, 10, []⟩,
  ⟨CI.pure (pNilck (tg 60)), (some 71), none, 11, []⟩,
  ⟨CI.pure (pFaddr 71 (tg 71)), (some 72), none, 12, []⟩,
  ⟨CI.mem 3 (mStore 1 (tg 72) (tg 70)), none, none, 13, []⟩]
def oa8_9 : List IS := [ip 73 (pMov (tg 0)),
  ip 74 (pFaddr 5 (tg 3)),
  il 75 (tg 74) (mLoad1 (tg 74)),
  im 3 76 (mCall 34 [(tg 73), (tg 75)])]
def oa8_10 : List IS := [ip 77 (pMov (tg 6)),
  ip 4 (pMov (tg 77))]
def ca8_2 : SC := sSeq (sReg (seqI oa8_10)) sRet
def ca8_3 : SC := sCond (tg 76) ca8_2 sSkip
def ca8_4 : SC := sSeq (sReg (seqI oa8_9)) ca8_3
def ca8_5 : SC := sSeq (sAny oa8_8) ca8_4
def oa8_11 : List IS := [ip 79 (pBin .eql (tg 23) (cv (.int .i64 20))),
  ip 78 (pMov (tg 79))]
@[simp] def oa8_11_ap := ops_rule (c := oa8_11) rfl
def oa8_12 : List IS := [ip 80 (pBin .eql (tg 23) (cv (.int .i64 21))),
  ip 78 (pMov (tg 80))]
@[simp] def oa8_12_ap := ops_rule (c := oa8_12) rfl
def ca8_6 : SC := sCond (tg 78) sSkip (sReg (seqI oa8_12))
@[simp] def ca8_6_ap := cond_rule (c := ca8_6) rfl
def ca8_7 : SC := sSeq (sReg (seqI oa8_11)) ca8_6
@[simp] def ca8_7_ap := seq_rule (c := ca8_7) rfl
def oa8_13 : List DA := [⟨CI.pure (pMov (tg 0)), (some 81), none, 0, []⟩,
  ⟨CI.pure (pMov (tg 0)), (some 82), none, 1, []⟩,
  ⟨CI.pure (pNilck (tg 82)), (some 83), none, 2, []⟩,
  ⟨CI.pure (pFaddr 71 (tg 83)), (some 84), none, 3, []⟩,
  ⟨CI.load (tg 84) (mLoad1 (tg 84)), (some 85), none, 4, []⟩,
  ⟨CI.pure (pMov (tg 0)), (some 86), none, 5, []⟩,
  ⟨CI.pure (pFaddr 1 (tg 3)), (some 87), none, 6, []⟩,
  ⟨CI.load (tg 87) (mLoad1 (tg 87)), (some 88), none, 7, []⟩,
  ⟨CI.pure (pNilck (tg 86)), (some 89), none, 8, []⟩,
  ⟨CI.pure (pFaddr 2 (tg 89)), (some 90), none, 9, []⟩,
  ⟨CI.pure (pFaddr 32 (tg 90)), (some 91), none, 10, []⟩,
  ⟨CI.pure (pIaddrA 32 1 (tg 91) (tg 88)), (some 92), none, 11, []⟩,
  ⟨CI.load (tg 92) (mLoad1 (tg 92)), (some 93), none, 12, []⟩,
  ⟨CI.mem 3 (mCall 33 [(tg 85), (tg 93)]), (some 94), none, 13, []⟩,
  ⟨CI.pure (pNilck (tg 81)), (some 95), none, 14, []⟩,
  ⟨CI.pure (pFaddr 71 (tg 95)), (some 96), none, 15, []⟩,
  ⟨CI.mem 3 (mStore 1 (tg 96) (tg 94)), none, none, 16, []⟩]
def oa8_14 : List DA := [⟨CI.pure (pMov (tg 0)), (some 97), none, 0, []⟩,
  ⟨CI.pure (pFaddr 1 (tg 3)), (some 98), none, 1, []⟩,
  ⟨CI.load (tg 98) (mLoad1 (tg 98)), (some 99), none, 2, []⟩,
  ⟨CI.pure (pNilck (tg 97)), (some 100), none, 3, []⟩,
  ⟨CI.pure (pFaddr 2 (tg 100)), (some 101), none, 4, []⟩,
  ⟨CI.pure (pFaddr 0 (tg 101)), (some 102), none, 5, []⟩,
  ⟨CI.pure (pIaddrA 32 1 (tg 102) (tg 99)), (some 103), none, 6, []⟩,
  ⟨CI.load (tg 103) (mLoad1 (tg 103)), (some 104), none, 7, []⟩,
  ⟨CI.pure (pBin .eql (tg 104) (cv (.int .u64 0))), (some 105), none, 8, []⟩,
  ⟨CI.pure (pFaddr 0 (tg 3)), (some 106), none, 9, []⟩,
  ⟨CI.load (tg 106) (mLoad1 (tg 106)), (some 107), none, 10, []⟩,
  ⟨CI.pure (pBin .eql (tg 107) (cv (.int .i64 20))), (some 108), none, 11, []⟩,
  ⟨CI.pure (pEqB false (tg 105) (tg 108)), (some 109), none, 12, []⟩]
def oa8_15 : List IS := [ip 110 (pMov (tg 6)),
  ip 4 (pMov (tg 110))]
def ca8_8 : SC := sSeq (sReg (seqI oa8_15)) sRet
def ca8_9 : SC := sCond (tg 109) ca8_8 sSkip
def ca8_10 : SC := sSeq (sAny oa8_14) ca8_9
def ca8_11 : SC := sSeq (sAny oa8_13) ca8_10
def oa8_16 : List IS := [ip 112 (pBin .eql (tg 23) (cv (.int .i64 16))),
  ip 111 (pMov (tg 112))]
@[simp] def oa8_16_ap := ops_rule (c := oa8_16) rfl
def oa8_17 : List DA := [⟨CI.pure (pMov (tg 0)), (some 113), none, 0, []⟩,
  ⟨CI.pure (pMov (tg 0)), (some 114), none, 1, []⟩,
  ⟨CI.pure (pFaddr 2 (tg 3)), (some 115), none, 2, []⟩,
  ⟨CI.load (tg 115) (mLoad1 (tg 115)), (some 116), none, 3, []⟩,
  ⟨CI.pure (pNilck (tg 114)), (some 117), none, 4, []⟩,
  ⟨CI.pure (pFaddr 2 (tg 117)), (some 118), none, 5, []⟩,
  ⟨CI.pure (pFaddr 0 (tg 118)), (some 119), none, 6, []⟩,
  ⟨CI.pure (pIaddrA 32 1 (tg 119) (tg 116)), (some 120), none, 7, []⟩,
  ⟨CI.load (tg 120) (mLoad1 (tg 120)), (some 121), none, 8, []⟩,
  ⟨CI.pure (pMov (tg 0)), (some 122), none, 9, []⟩,
  ⟨CI.pure (pFaddr 3 (tg 3)), (some 123), none, 10, []⟩,
  ⟨CI.load (tg 123) (mLoad1 (tg 123)), (some 124), none, 11, []⟩,
  ⟨CI.pure (pNilck (tg 122)), (some 125), none, 12, []⟩,
  ⟨CI.pure (pFaddr 2 (tg 125)), (some 126), none, 13, []⟩,
  ⟨CI.pure (pFaddr 0 (tg 126)), (some 127), none, 14, []⟩,
  ⟨CI.pure (pIaddrA 32 1 (tg 127) (tg 124)), (some 128), none, 15, []⟩,
  ⟨CI.load (tg 128) (mLoad1 (tg 128)), (some 129), none, 16, []⟩,
  ⟨CI.pure (pMov (tg 0)), (some 130), none, 17, []⟩,
  ⟨CI.pure (pFaddr 2 (tg 3)), (some 131), none, 18, []⟩,
  ⟨CI.load (tg 131) (mLoad1 (tg 131)), (some 132), none, 19, []⟩,
  ⟨CI.pure (pNilck (tg 130)), (some 133), none, 20, []⟩,
  ⟨CI.pure (pFaddr 2 (tg 133)), (some 134), none, 21, []⟩,
  ⟨CI.pure (pFaddr 32 (tg 134)), (some 135), none, 22, []⟩,
  ⟨CI.pure (pIaddrA 32 1 (tg 135) (tg 132)), (some 136), none, 23, []⟩,
  ⟨CI.load (tg 136) (mLoad1 (tg 136)), (some 137), none, 24, []⟩,
  ⟨CI.pure (pMov (tg 0)), (some 138), none, 25, []⟩,
  ⟨CI.pure (pFaddr 3 (tg 3)), (some 139), none, 26, []⟩,
  ⟨CI.load (tg 139) (mLoad1 (tg 139)), (some 140), none, 27, []⟩,
  ⟨CI.pure (pNilck (tg 138)), (some 141), none, 28, []⟩,
  ⟨CI.pure (pFaddr 2 (tg 141)), (some 142), none, 29, []⟩,
  ⟨CI.pure (pFaddr 32 (tg 142)), (some 143), none, 30, []⟩,
  ⟨CI.pure (pIaddrA 32 1 (tg 143) (tg 140)), (some 144), none, 31, []⟩,
  ⟨CI.load (tg 144) (mLoad1 (tg 144)), (some 145), none, 32, []⟩,
  ⟨CI.mem 3 (mCall 33 [(tg 137), (tg 145)]), (some 146), none, 33, [3, 8, 11, 16]⟩,
  ⟨CI.mem 3 (mCall 35 [(tg 113), (tg 121), (tg 129), (tg 146)]), (some 147), none, 34, []⟩]
def oa8_18 : List IS := [ip 149 (pBin .eql (tg 23) (cv (.int .i64 17))),
  ip 148 (pMov (tg 149))]
@[simp] def oa8_18_ap := ops_rule (c := oa8_18) rfl
def oa8_19 : List IS := [ip 7 (pMov (cv (.int .u64 0)))]
def oa8_20 : List IS := [ip 150 (pMov (tg 0)),
  ip 151 (pFaddr 5 (tg 3)),
  il 152 (tg 151) (mLoad1 (tg 151)),
  im 3 153 (mCall 34 [(tg 150), (tg 152)])]
def oa8_21 : List IS := [ip 7 (pMov (cv (.int .u64 1)))]
def ca8_12 : SC := sCond (tg 153) (sReg (seqI oa8_21)) sSkip
def ca8_13 : SC := sSeq (sReg (seqI oa8_20)) ca8_12
def oa8_22 : List DA := [⟨CI.pure (pMov (tg 0)), (some 154), none, 0, []⟩,
  ⟨CI.pure (pNilck (tg 154)), (some 155), none, 1, []⟩,
  ⟨CI.pure (pFaddr 2 (tg 155)), (some 156), none, 2, []⟩,
  ⟨CI.pure (pFaddr 1 (tg 3)), (some 157), none, 3, []⟩,
  ⟨CI.load (tg 157) (mLoad1 (tg 157)), (some 158), none, 4, []⟩,
  ⟨CI.pure (pMov (tg 7)), (some 159), none, 5, []⟩,
  ⟨CI.pure (pMov (tg 0)), (some 160), none, 6, []⟩,
  ⟨CI.pure (pNilck (tg 160)), (some 161), none, 7, []⟩,
  ⟨CI.pure (pFaddr 66 (tg 161)), (some 162), none, 8, []⟩,
  ⟨CI.pure (pFaddr 4 (tg 162)), (some 163), none, 9, []⟩,
  ⟨CI.load (tg 163) (mLoad1 (tg 163)), (some 164), none, 10, []⟩,
  ⟨CI.mem 3 (mCall 20 [(tg 156), (tg 158), (tg 159), (tg 164)]), (some 165), none, 11, []⟩]
def ca8_14 : SC := sSeq ca8_13 (sAny oa8_22)
def ca8_15 : SC := sSeq (sReg (seqI oa8_19)) ca8_14
def oa8_23 : List IS := [ip 167 (pBin .eql (tg 23) (cv (.int .i64 1))),
  ip 166 (pMov (tg 167))]
@[simp] def oa8_23_ap := ops_rule (c := oa8_23) rfl
def oa8_24 : List DA := [⟨CI.pure (pMov (tg 0)), (some 168), none, 0, []⟩,
  ⟨CI.pure (pNilck (tg 168)), (some 169), none, 1, []⟩,
  ⟨CI.pure (pFaddr 2 (tg 169)), (some 170), none, 2, []⟩,
  ⟨CI.pure (pFaddr 1 (tg 3)), (some 171), none, 3, []⟩,
  ⟨CI.load (tg 171) (mLoad1 (tg 171)), (some 172), none, 4, []⟩,
  ⟨CI.pure (pFaddr 4 (tg 3)), (some 173), none, 5, []⟩,
  ⟨CI.load (tg 173) (mLoad1 (tg 173)), (some 174), none, 6, []⟩,
  ⟨CI.pure (pConvI .u64 (tg 174)), (some 175), none, 7, []⟩,
  ⟨CI.pure (pFaddr 5 (tg 3)), (some 176), none, 8, []⟩,
  ⟨CI.load (tg 176) (mLoad1 (tg 176)), (some 177), none, 9, []⟩,
  ⟨CI.pure (pBin .mul (cv (.int .i64 16)) (tg 177)), (some 178), none, 10, []⟩,
  ⟨CI.pure (pShift .shl (tg 175) (tg 178)), (some 179), none, 11, []⟩,
  ⟨CI.mem 3 (mCall 20 [(tg 170), (tg 172), (tg 179), (cv (.slice none 0 0))]), (some 180), none, 12, []⟩]
@[simp] def oa8_24_ap := das_rule (c := oa8_24) rfl
def oa8_25 : List IS := [ip 182 (pBin .eql (tg 23) (cv (.int .i64 2))),
  ip 181 (pMov (tg 182))]
def oa8_26 : List IS := [ip 183 (pFaddr 5 (tg 3)),
  il 184 (tg 183) (mLoad1 (tg 183)),
  ip 185 (pBin .mul (cv (.int .i64 16)) (tg 184)),
  ip 8 (pMov (tg 185))]
def oa8_27 : List DA := [⟨CI.pure (pMov (tg 0)), (some 186), none, 0, []⟩,
  ⟨CI.pure (pNilck (tg 186)), (some 187), none, 1, []⟩,
  ⟨CI.pure (pFaddr 2 (tg 187)), (some 188), none, 2, []⟩,
  ⟨CI.pure (pFaddr 1 (tg 3)), (some 189), none, 3, []⟩,
  ⟨CI.load (tg 189) (mLoad1 (tg 189)), (some 190), none, 4, []⟩,
  ⟨CI.pure (pMov (tg 0)), (some 191), none, 5, []⟩,
  ⟨CI.pure (pFaddr 1 (tg 3)), (some 192), none, 6, []⟩,
  ⟨CI.load (tg 192) (mLoad1 (tg 192)), (some 193), none, 7, []⟩,
  ⟨CI.pure (pNilck (tg 191)), (some 194), none, 8, []⟩,
  ⟨CI.pure (pFaddr 2 (tg 194)), (some 195), none, 9, []⟩,
  ⟨CI.pure (pFaddr 0 (tg 195)), (some 196), none, 10, []⟩,
  ⟨CI.pure (pIaddrA 32 1 (tg 196) (tg 193)), (some 197), none, 11, []⟩,
  ⟨CI.load (tg 197) (mLoad1 (tg 197)), (some 198), none, 12, []⟩,
  ⟨CI.pure (pMov (tg 8)), (some 199), none, 13, []⟩,
  ⟨CI.pure (pShift .shl (cv (.int .u64 65535)) (tg 199)), (some 200), none, 14, []⟩,
  ⟨CI.pure (pBin .andNot (tg 198) (tg 200)), (some 201), none, 15, []⟩,
  ⟨CI.pure (pFaddr 4 (tg 3)), (some 202), none, 16, []⟩,
  ⟨CI.load (tg 202) (mLoad1 (tg 202)), (some 203), none, 17, []⟩,
  ⟨CI.pure (pConvI .u64 (tg 203)), (some 204), none, 18, []⟩,
  ⟨CI.pure (pMov (tg 8)), (some 205), none, 19, []⟩,
  ⟨CI.pure (pShift .shl (tg 204) (tg 205)), (some 206), none, 20, []⟩,
  ⟨CI.pure (pBin .or (tg 201) (tg 206)), (some 207), none, 21, []⟩,
  ⟨CI.pure (pMov (tg 0)), (some 208), none, 22, []⟩,
  ⟨CI.pure (pFaddr 1 (tg 3)), (some 209), none, 23, []⟩,
  ⟨CI.load (tg 209) (mLoad1 (tg 209)), (some 210), none, 24, []⟩,
  ⟨CI.pure (pNilck (tg 208)), (some 211), none, 25, []⟩,
  ⟨CI.pure (pFaddr 2 (tg 211)), (some 212), none, 26, []⟩,
  ⟨CI.pure (pFaddr 32 (tg 212)), (some 213), none, 27, []⟩,
  ⟨CI.pure (pIaddrA 32 1 (tg 213) (tg 210)), (some 214), none, 28, []⟩,
  ⟨CI.load (tg 214) (mLoad1 (tg 214)), (some 215), none, 29, []⟩,
  ⟨CI.mem 3 (mCall 20 [(tg 188), (tg 190), (tg 207), (tg 215)]), (some 216), none, 30, []⟩]
def ca8_16 : SC := sSeq (sReg (seqI oa8_26)) (sAny oa8_27)
def oa8_28 : List IS := [ip 218 (pBin .eql (tg 23) (cv (.int .i64 28))),
  ip 217 (pMov (tg 218))]
def oa8_29 : List IS := [ip 219 (pBin .eql (tg 23) (cv (.int .i64 29))),
  ip 217 (pMov (tg 219))]
def ca8_17 : SC := sCond (tg 217) sSkip (sReg (seqI oa8_29))
def ca8_18 : SC := sSeq (sReg (seqI oa8_28)) ca8_17
def oa8_30 : List IS := [ip 220 (pMov (tg 0)),
  ip 221 (pNilck (tg 220)),
  ip 222 (pFaddr 72 (tg 221)),
  im0 3 (mStore 1 (tg 222) (cv (.bool false)))]
def oa8_31 : List DA := [⟨CI.pure (pMov (tg 0)), (some 223), none, 0, []⟩,
  ⟨CI.pure (pNilck (tg 223)), (some 224), none, 1, []⟩,
  ⟨CI.pure (pFaddr 2 (tg 224)), (some 225), none, 2, []⟩,
  ⟨CI.pure (pFaddr 3 (tg 3)), (some 226), none, 3, []⟩,
  ⟨CI.load (tg 226) (mLoad1 (tg 226)), (some 227), none, 4, []⟩,
  ⟨CI.mem 3 (mCall 20 [(tg 225), (tg 227), (cv (.int .u64 1)), (cv (.slice none 0 0))]), (some 228), none, 5, []⟩]
def ca8_19 : SC := sSeq (sReg (seqI oa8_30)) (sAny oa8_31)
def oa8_32 : List IS := [ip 230 (pBin .eql (tg 23) (cv (.int .i64 32))),
  ip 229 (pMov (tg 230))]
def oa8_33 : List DA := [⟨CI.pure (pMov (tg 0)), (some 24), none, 0, []⟩,
  ⟨CI.pure (pFaddr 2 (tg 3)), (some 25), none, 1, []⟩,
  ⟨CI.load (tg 25) (mLoad1 (tg 25)), (some 26), none, 2, []⟩,
  ⟨CI.pure (pNilck (tg 24)), (some 27), none, 3, []⟩,
  ⟨CI.pure (pFaddr 2 (tg 27)), (some 28), none, 4, []⟩,
  ⟨CI.pure (pFaddr 32 (tg 28)), (some 29), none, 5, []⟩,
  ⟨CI.pure (pIaddrA 32 1 (tg 29) (tg 26)), (some 30), none, 6, []⟩,
  ⟨CI.load (tg 30) (mLoad1 (tg 30)), (some 31), none, 7, []⟩,
  ⟨CI.pure (pMov (tg 31)), (some 9), none, 8, []⟩]
def oa8_34 : List IS := [ip 32 (pFaddr 0 (tg 3)),
  il 33 (tg 32) (mLoad1 (tg 32)),
  ip 34 (pBin .lss (tg 33) (cv (.int .i64 12)))]
def oa8_35 : List DA := [⟨CI.pure (pMov (tg 9)), (some 35), none, 0, []⟩,
  ⟨CI.pure (pMov (tg 0)), (some 36), none, 1, []⟩,
  ⟨CI.pure (pFaddr 3 (tg 3)), (some 37), none, 2, []⟩,
  ⟨CI.load (tg 37) (mLoad1 (tg 37)), (some 38), none, 3, []⟩,
  ⟨CI.pure (pNilck (tg 36)), (some 39), none, 4, []⟩,
  ⟨CI.pure (pFaddr 2 (tg 39)), (some 40), none, 5, []⟩,
  ⟨CI.pure (pFaddr 32 (tg 40)), (some 41), none, 6, []⟩,
  ⟨CI.pure (pIaddrA 32 1 (tg 41) (tg 38)), (some 42), none, 7, []⟩,
  ⟨CI.load (tg 42) (mLoad1 (tg 42)), (some 43), none, 8, []⟩,
  ⟨CI.mem 3 (mCall 33 [(tg 35), (tg 43)]), (some 44), none, 9, []⟩,
  ⟨CI.pure (pMov (tg 44)), (some 9), none, 10, []⟩]
def ca8_20 : SC := sCond (tg 34) (sAny oa8_35) sSkip
def ca8_21 : SC := sSeq (sReg (seqI oa8_34)) ca8_20
def oa8_36 : List DA := [⟨CI.pure (pMov (tg 0)), (some 45), none, 0, []⟩,
  ⟨CI.pure (pNilck (tg 45)), (some 46), none, 1, []⟩,
  ⟨CI.pure (pFaddr 2 (tg 46)), (some 47), none, 2, []⟩,
  ⟨CI.pure (pFaddr 1 (tg 3)), (some 48), none, 3, []⟩,
  ⟨CI.load (tg 48) (mLoad1 (tg 48)), (some 49), none, 4, []⟩,
  ⟨CI.pure (pMov (tg 0)), (some 50), none, 5, []⟩,
  ⟨CI.load (tg 3) (mLoadN 6 (tg 3)), (some 51), none, 6, []⟩,
  ⟨CI.mem 3 (mCall 36 [(tg 50), (tg 51)]), (some 52), none, 7, [4]⟩,
  ⟨CI.pure (pMov (tg 9)), (some 53), none, 8, []⟩,
  ⟨CI.mem 3 (mCall 20 [(tg 47), (tg 49), (tg 52), (tg 53)]), (some 54), none, 9, []⟩]
def ca8_22 : SC := sSeq ca8_21 (sAny oa8_36)
def ca8_23 : SC := sSeq (sAny oa8_33) ca8_22
def ca8_24 : SC := sCond (tg 229) sSkip ca8_23
def ca8_25 : SC := sSeq (sReg (seqI oa8_32)) ca8_24
def ca8_26 : SC := sCond (tg 217) ca8_19 ca8_25
def ca8_27 : SC := sSeq ca8_18 ca8_26
def ca8_28 : SC := sCond (tg 181) ca8_16 ca8_27
def ca8_29 : SC := sSeq (sReg (seqI oa8_25)) ca8_28
def ca8_30 : SC := sCond (tg 166) (sAny oa8_24) ca8_29
@[simp] def ca8_30_ap := cond_rule (c := ca8_30) rfl
def ca8_31 : SC := sSeq (sReg (seqI oa8_23)) ca8_30
@[simp] def ca8_31_ap := seq_rule (c := ca8_31) rfl
def ca8_32 : SC := sCond (tg 148) ca8_15 ca8_31
@[simp] def ca8_32_ap := cond_rule (c := ca8_32) rfl
def ca8_33 : SC := sSeq (sReg (seqI oa8_18)) ca8_32
@[simp] def ca8_33_ap := seq_rule (c := ca8_33) rfl
def ca8_34 : SC := sCond (tg 111) (sAny oa8_17) ca8_33
@[simp] def ca8_34_ap := cond_rule (c := ca8_34) rfl
def ca8_35 : SC := sSeq (sReg (seqI oa8_16)) ca8_34
@[simp] def ca8_35_ap := seq_rule (c := ca8_35) rfl
def ca8_36 : SC := sCond (tg 78) ca8_11 ca8_35
@[simp] def ca8_36_ap := cond_rule (c := ca8_36) rfl
def ca8_37 : SC := sSeq ca8_7 ca8_36
@[simp] def ca8_37_ap := seq_rule (c := ca8_37) rfl
def ca8_38 : SC := sCond (tg 58) ca8_5 ca8_37
@[simp] def ca8_38_ap := cond_rule (c := ca8_38) rfl
def ca8_39 : SC := sSeq (sReg (seqI oa8_7)) ca8_38
@[simp] def ca8_39_ap := seq_rule (c := ca8_39) rfl
def ca8_40 : SC := sCond (tg 55) ca8_1 ca8_39
@[simp] def ca8_40_ap := cond_rule (c := ca8_40) rfl
def ca8_41 : SC := sSeq (sReg (seqI oa8_5)) ca8_40
@[simp] def ca8_41_ap := seq_rule (c := ca8_41) rfl
def ca8_42 : SC := sBlock 0 ca8_41
@[simp] def ca8_42_ap := block_rule (c := ca8_42) rfl
def ca8_43 : SC := sSeq (sReg (seqI oa8_4)) ca8_42
@[simp] def ca8_43_ap := seq_rule (c := ca8_43) rfl
def oa8_37 : List IS := [ip 231 (pMov (tg 5)),
  ip 4 (pMov (tg 231))]
@[simp] def oa8_37_ap := ops_rule (c := oa8_37) rfl
def ca8_44 : SC := sSeq (sReg (seqI oa8_37)) sRet
@[simp] def ca8_44_ap := seq_rule (c := ca8_44) rfl
def ca8_45 : SC := sSeq ca8_43 ca8_44
@[simp] def ca8_45_ap := seq_rule (c := ca8_45) rfl
def ca8_46 : SC := sSeq (sAny oa8_3) ca8_45
@[simp] def ca8_46_ap := seq_rule (c := ca8_46) rfl
def ca8_47 : SC := sSeq (sReg (seqI oa8_2)) ca8_46
@[simp] def ca8_47_ap := seq_rule (c := ca8_47) rfl
def ca8_48 : SC := sSeq (sReg (seqI oa8_1)) ca8_47
@[simp] def ca8_48_ap := seq_rule (c := ca8_48) rfl
def da8 : DFn := ⟨ca8_48, 232, [.t 4]⟩
theorem da8_ok : fnOf Try.prog 17 = some da8 := by kernel_rfl
def oa9_1 : List IS := [im 1 5 (mBox (tg 2))]
@[simp] def oa9_1_ap := ops_rule (c := oa9_1) rfl
def oa9_2 : List IS := [ip 11 (pMov (tg 0)),
  ip 12 (pNilck (tg 11)),
  ip 13 (pFaddr 78 (tg 12)),
  ip 14 (pFaddr 0 (tg 13)),
  il 15 (tg 14) (mLoad1 (tg 14)),
  ip 16 (pLen (tg 15)),
  ip 6 (pMov (tg 16))]
@[simp] def oa9_2_ap := ops_rule (c := oa9_2) rfl
def oa9_3 : List IS := [ip 17 (pMov (tg 0)),
  ip 18 (pNilck (tg 17)),
  ip 19 (pFaddr 72 (tg 18)),
  im0 3 (mStore 1 (tg 19) (cv (.bool false)))]
@[simp] def oa9_3_ap := ops_rule (c := oa9_3) rfl
def oa9_4 : List DA := [⟨CI.pure (pMov (tg 0)), (some 20), none, 0, []⟩,
  ⟨CI.pure (pMov (tg 0)), (some 21), none, 1, []⟩,
  ⟨CI.pure (pNilck (tg 21)), (some 22), none, 2, []⟩,
  ⟨CI.pure (pFaddr 78 (tg 22)), (some 23), none, 3, []⟩,
  ⟨CI.pure (pFaddr 0 (tg 23)), (some 24), none, 4, []⟩,
  ⟨CI.load (tg 24) (mLoad1 (tg 24)), (some 25), none, 5, []⟩,
  ⟨CI.load (tg 5) (mLoadN 5 (tg 5)), (some 26), none, 6, []⟩,
  ⟨CI.mem 1 (mBslice 5 1 (rep 1 [(.int .i64 0), (.int .i64 0), (.int .i64 0), (.int .u64 0), (.int .i64 0)]) [(0, 5, (tg 26))]), (some 27), none, 7, []⟩,
  ⟨CI.mem 3 (mAppend 5 40 (tg 25) (tg 27)), (some 28), none, 8, []⟩,
  ⟨CI.pure (pNilck (tg 20)), (some 29), none, 9, []⟩,
  ⟨CI.pure (pFaddr 78 (tg 29)), (some 30), none, 10, []⟩,
  ⟨CI.pure (pFaddr 0 (tg 30)), (some 31), none, 11, []⟩,
  ⟨CI.mem 3 (mStore 1 (tg 31) (tg 28)), none, none, 12, []⟩]
@[simp] def oa9_4_ap := das_rule (c := oa9_4) rfl
def oa9_5 : List IS := [ip 32 (pMov (tg 1)),
  ip 33 (pLen (tg 32)),
  ip 34 (pMov (cv (.int .i64 0)))]
@[simp] def oa9_5_ap := ops_rule (c := oa9_5) rfl
def oa9_6 : List IS := [ip 35 (pBin .lss (tg 34) (tg 33))]
@[simp] def oa9_6_ap := ops_rule (c := oa9_6) rfl
def ca9_1 : SC := sCond (tg 35) sSkip (sExit 0)
@[simp] def ca9_1_ap := cond_rule (c := ca9_1) rfl
def oa9_7 : List IS := [ip 36 (pIaddrS 1 (tg 32) (tg 34)),
  il 37 (tg 36) (mLoad1 (tg 36)),
  ip 8 (pMov (tg 37))]
def oa9_8 : List IS := [ip 38 (pMov (tg 0)),
  ip 39 (pMov (tg 0)),
  ip 40 (pNilck (tg 39)),
  ip 41 (pFaddr 78 (tg 40)),
  ip 42 (pFaddr 2 (tg 41)),
  il 43 (tg 42) (mLoad1 (tg 42)),
  ip 44 (pMov (tg 8)),
  ip 45 (pMov (tg 6)),
  ip 46 (pBuild [(.int .i64 0), (.int .i64 0)] [(0, 1, (tg 44)), (1, 1, (tg 45))]),
  im 1 47 (mBslice 2 1 (rep 1 [(.int .i64 0), (.int .i64 0)]) [(0, 2, (tg 46))]),
  im 3 48 (mAppend 2 16 (tg 43) (tg 47)),
  ip 49 (pNilck (tg 38)),
  ip 50 (pFaddr 78 (tg 49)),
  ip 51 (pFaddr 2 (tg 50)),
  im0 3 (mStore 1 (tg 51) (tg 48))]
def ca9_2 : SC := sSeq (sReg (seqI oa9_7)) (sReg (seqI oa9_8))
def ca9_3 : SC := sBlock 1 ca9_2
def oa9_9 : List IS := [ip 52 (pBin .add (tg 34) (cv (.int .i64 1))),
  ip 34 (pMov (tg 52))]
def ca9_4 : SC := sSeq ca9_3 (sReg (seqI oa9_9))
def ca9_5 : SC := sSeq ca9_1 ca9_4
@[simp] def ca9_5_ap := seq_rule (c := ca9_5) rfl
def ca9_6 : SC := sSeq (sReg (seqI oa9_6)) ca9_5
@[simp] def ca9_6_ap := seq_rule (c := ca9_6) rfl
def ca9_7 : SC := sLoop ca9_6
def ca9_8 : SC := sBlock 0 ca9_7
@[simp] def ca9_8_ap := block_rule (c := ca9_8) rfl
def ca9_9 : SC := sSeq (sReg (seqI oa9_5)) ca9_8
@[simp] def ca9_9_ap := seq_rule (c := ca9_9) rfl
def oa9_10 : List IS := [ip 53 (pMov (tg 0)),
  ip 54 (pNilck (tg 53)),
  ip 55 (pFaddr 71 (tg 54)),
  il 56 (tg 55) (mLoad1 (tg 55)),
  ip 57 (pLen (tg 56)),
  ip 58 (pMov (cv (.int .i64 0)))]
@[simp] def oa9_10_ap := ops_rule (c := oa9_10) rfl
def oa9_11 : List IS := [ip 59 (pBin .lss (tg 58) (tg 57))]
@[simp] def oa9_11_ap := ops_rule (c := oa9_11) rfl
def ca9_10 : SC := sCond (tg 59) sSkip (sExit 2)
@[simp] def ca9_10_ap := cond_rule (c := ca9_10) rfl
def oa9_12 : List IS := [ip 60 (pIaddrS 1 (tg 56) (tg 58)),
  il 61 (tg 60) (mLoad1 (tg 60)),
  ip 10 (pMov (tg 61))]
def oa9_13 : List IS := [ip 62 (pMov (tg 0)),
  ip 63 (pMov (tg 0)),
  ip 64 (pNilck (tg 63)),
  ip 65 (pFaddr 78 (tg 64)),
  ip 66 (pFaddr 4 (tg 65)),
  il 67 (tg 66) (mLoad1 (tg 66)),
  ip 68 (pMov (tg 10)),
  ip 69 (pMov (tg 6)),
  ip 70 (pBuild [(.int .i64 0), (.int .i64 0)] [(0, 1, (tg 68)), (1, 1, (tg 69))]),
  im 1 71 (mBslice 2 1 (rep 1 [(.int .i64 0), (.int .i64 0)]) [(0, 2, (tg 70))]),
  im 3 72 (mAppend 2 16 (tg 67) (tg 71)),
  ip 73 (pNilck (tg 62)),
  ip 74 (pFaddr 78 (tg 73)),
  ip 75 (pFaddr 4 (tg 74)),
  im0 3 (mStore 1 (tg 75) (tg 72))]
def ca9_11 : SC := sSeq (sReg (seqI oa9_12)) (sReg (seqI oa9_13))
def ca9_12 : SC := sBlock 3 ca9_11
def oa9_14 : List IS := [ip 76 (pBin .add (tg 58) (cv (.int .i64 1))),
  ip 58 (pMov (tg 76))]
def ca9_13 : SC := sSeq ca9_12 (sReg (seqI oa9_14))
def ca9_14 : SC := sSeq ca9_10 ca9_13
@[simp] def ca9_14_ap := seq_rule (c := ca9_14) rfl
def ca9_15 : SC := sSeq (sReg (seqI oa9_11)) ca9_14
@[simp] def ca9_15_ap := seq_rule (c := ca9_15) rfl
def ca9_16 : SC := sLoop ca9_15
def ca9_17 : SC := sBlock 2 ca9_16
@[simp] def ca9_17_ap := block_rule (c := ca9_17) rfl
def ca9_18 : SC := sSeq (sReg (seqI oa9_10)) ca9_17
@[simp] def ca9_18_ap := seq_rule (c := ca9_18) rfl
def ca9_19 : SC := sSeq ca9_9 ca9_18
@[simp] def ca9_19_ap := seq_rule (c := ca9_19) rfl
def ca9_20 : SC := sSeq (sAny oa9_4) ca9_19
@[simp] def ca9_20_ap := seq_rule (c := ca9_20) rfl
def ca9_21 : SC := sSeq (sReg (seqI oa9_3)) ca9_20
@[simp] def ca9_21_ap := seq_rule (c := ca9_21) rfl
def ca9_22 : SC := sSeq (sReg (seqI oa9_2)) ca9_21
@[simp] def ca9_22_ap := seq_rule (c := ca9_22) rfl
def ca9_23 : SC := sSeq (sReg (seqI oa9_1)) ca9_22
@[simp] def ca9_23_ap := seq_rule (c := ca9_23) rfl
def da9 : DFn := ⟨ca9_23, 77, []⟩
theorem da9_ok : fnOf Try.prog 18 = some da9 := by kernel_rfl
def ob0_1 : List IS := [ip 8 (pMov (tg 1)),
  ip 9 (pBin .neq (tg 8) (cv (.int .i64 31)))]
@[simp] def ob0_1_ap := ops_rule (c := ob0_1) rfl
def ob0_2 : List DA := [⟨CI.pure (pMov (tg 0)), (some 10), none, 0, []⟩,
  ⟨CI.pure (pMov (tg 1)), (some 11), none, 1, []⟩,
  ⟨CI.pure (pMov (tg 0)), (some 12), none, 2, []⟩,
  ⟨CI.pure (pMov (tg 1)), (some 13), none, 3, []⟩,
  ⟨CI.pure (pMov (tg 2)), (some 14), none, 4, []⟩,
  ⟨CI.pure (pMov (tg 3)), (some 15), none, 5, []⟩,
  ⟨CI.pure (pNilck (tg 10)), (some 16), none, 6, []⟩,
  ⟨CI.pure (pFaddr 0 (tg 16)), (some 17), none, 7, []⟩,
  ⟨CI.pure (pIaddrA 32 1 (tg 17) (tg 11)), (some 18), none, 8, []⟩,
  ⟨CI.mem 3 (mStore 1 (tg 18) (tg 14)), none, none, 9, []⟩,
  ⟨CI.pure (pNilck (tg 12)), (some 19), none, 10, []⟩,
  ⟨CI.pure (pFaddr 32 (tg 19)), (some 20), none, 11, []⟩,
  ⟨CI.pure (pIaddrA 32 1 (tg 20) (tg 13)), (some 21), none, 12, []⟩,
  ⟨CI.mem 3 (mStore 1 (tg 21) (tg 15)), none, none, 13, []⟩]
@[simp] def ob0_2_ap := das_rule (c := ob0_2) rfl
def cb0_1 : SC := sCond (tg 9) (sAny ob0_2) sSkip
@[simp] def cb0_1_ap := cond_rule (c := cb0_1) rfl
def cb0_2 : SC := sSeq (sReg (seqI ob0_1)) cb0_1
@[simp] def cb0_2_ap := seq_rule (c := cb0_2) rfl
def db0 : DFn := ⟨cb0_2, 22, []⟩
theorem db0_ok : fnOf Try.prog 20 = some db0 := by kernel_rfl
def ob1_1 : List IS := [im 1 1 (mBox (tg 0)),
  im 1 2 (mAlloc [(.slice none 0 0), (.slice none 0 0), (.slice none 0 0), (.slice none 0 0), (.slice none 0 0), (.slice none 0 0), (.int .i64 0), (.int .i64 0), (.int .i64 0)])]
@[simp] def ob1_1_ap := ops_rule (c := ob1_1) rfl
def ob1_2 : List IS := [il 5 (tg 1) (mLoadN 9 (tg 1)),
  im 3 6 (mCall 38 [(tg 5)]),
  im0 3 (mStore 9 (tg 1) (tg 6))]
@[simp] def ob1_2_ap := ops_rule (c := ob1_2) rfl
def ob1_3 : List IS := [ip 7 (pFaddr 1 (tg 1)),
  il 8 (tg 7) (mLoad1 (tg 7)),
  ip 9 (pFaddr 2 (tg 1)),
  il 10 (tg 9) (mLoad1 (tg 9)),
  ip 11 (pFaddr 3 (tg 1)),
  il 12 (tg 11) (mLoad1 (tg 11)),
  ip 13 (pFaddr 4 (tg 1)),
  il 14 (tg 13) (mLoad1 (tg 13)),
  im 1 15 (mBslice 1 4 (rep 4 [(.slice none 0 0)]) [(0, 1, (tg 8)), (1, 1, (tg 10)), (2, 1, (tg 12)), (3, 1, (tg 14))]),
  ip 16 (pLen (tg 15)),
  ip 17 (pMov (cv (.int .i64 0)))]
@[simp] def ob1_3_ap := ops_rule (c := ob1_3) rfl
def ob1_4 : List IS := [ip 18 (pBin .lss (tg 17) (tg 16))]
@[simp] def ob1_4_ap := ops_rule (c := ob1_4) rfl
def cb1_1 : SC := sCond (tg 18) sSkip (sExit 0)
@[simp] def cb1_1_ap := cond_rule (c := cb1_1) rfl
def ob1_5 : List IS := [ip 19 (pIaddrS 1 (tg 15) (tg 17)),
  il 20 (tg 19) (mLoad1 (tg 19)),
  ip 4 (pMov (tg 20))]
@[simp] def ob1_5_ap := ops_rule (c := ob1_5) rfl
def ob1_6 : List IS := [ip 21 (pMov (tg 4)),
  im 3 22 (mCall 39 [(tg 21), (cv (.func (.func 40) #[] #[]))])]
@[simp] def ob1_6_ap := ops_rule (c := ob1_6) rfl
def cb1_2 : SC := sSeq (sReg (seqI ob1_5)) (sReg (seqI ob1_6))
@[simp] def cb1_2_ap := seq_rule (c := cb1_2) rfl
def cb1_3 : SC := sBlock 1 cb1_2
@[simp] def cb1_3_ap := block_rule (c := cb1_3) rfl
def ob1_7 : List IS := [ip 23 (pBin .add (tg 17) (cv (.int .i64 1))),
  ip 17 (pMov (tg 23))]
@[simp] def ob1_7_ap := ops_rule (c := ob1_7) rfl
def cb1_4 : SC := sSeq cb1_3 (sReg (seqI ob1_7))
@[simp] def cb1_4_ap := seq_rule (c := cb1_4) rfl
def cb1_5 : SC := sSeq cb1_1 cb1_4
@[simp] def cb1_5_ap := seq_rule (c := cb1_5) rfl
def cb1_6 : SC := sSeq (sReg (seqI ob1_4)) cb1_5
@[simp] def cb1_6_ap := seq_rule (c := cb1_6) rfl
def cb1_7 : SC := sLoop cb1_6
def cb1_8 : SC := sBlock 0 cb1_7
@[simp] def cb1_8_ap := block_rule (c := cb1_8) rfl
def cb1_9 : SC := sSeq (sReg (seqI ob1_3)) cb1_8
@[simp] def cb1_9_ap := seq_rule (c := cb1_9) rfl
def ob1_8 : List IS := [il 24 (tg 1) (mLoadN 9 (tg 1)),
  im0 3 (mStore 9 (tg 2) (tg 24))]
@[simp] def ob1_8_ap := ops_rule (c := ob1_8) rfl
def cb1_10 : SC := sSeq (sReg (seqI ob1_8)) sRet
@[simp] def cb1_10_ap := seq_rule (c := cb1_10) rfl
def cb1_11 : SC := sSeq cb1_9 cb1_10
@[simp] def cb1_11_ap := seq_rule (c := cb1_11) rfl
def cb1_12 : SC := sSeq (sReg (seqI ob1_2)) cb1_11
@[simp] def cb1_12_ap := seq_rule (c := cb1_12) rfl
def cb1_13 : SC := sSeq (sReg (seqI ob1_1)) cb1_12
@[simp] def cb1_13_ap := seq_rule (c := cb1_13) rfl
def db1 : DFn := ⟨cb1_13, 25, [.cell 2 9]⟩
theorem db1_ok : fnOf Try.prog 23 = some db1 := by kernel_rfl
def ob2_1 : List IS := [im 1 1 (mBox (tg 0)),
  ip 2 (pMov (cv (.int .i64 0))),
  ip 3 (pMov (cv (.int .i64 0)))]
@[simp] def ob2_1_ap := ops_rule (c := ob2_1) rfl
def ob2_2 : List IS := [ip 5 (pFaddr 0 (tg 1)),
  il 6 (tg 5) (mLoad1 (tg 5)),
  ip 7 (pBin .eql (tg 6) (cv (.int .i64 1))),
  ip 4 (pMov (tg 7))]
@[simp] def ob2_2_ap := ops_rule (c := ob2_2) rfl
def ob2_3 : List DA := [⟨CI.pure (pFaddr 1 (tg 1)), (some 8), none, 0, []⟩,
  ⟨CI.load (tg 8) (mLoad1 (tg 8)), (some 9), none, 1, []⟩,
  ⟨CI.pure (pMov (cv (.int .i64 2))), (some 2), none, 2, []⟩,
  ⟨CI.pure (pMov (tg 9)), (some 3), none, 3, []⟩]
@[simp] def ob2_3_ap := das_rule (c := ob2_3) rfl
def cb2_1 : SC := sSeq (sAny ob2_3) sRet
@[simp] def cb2_1_ap := seq_rule (c := cb2_1) rfl
def ob2_4 : List IS := [ip 11 (pFaddr 0 (tg 1)),
  il 12 (tg 11) (mLoad1 (tg 11)),
  ip 13 (pBin .eql (tg 12) (cv (.int .i64 2))),
  ip 14 (pMov (tg 13)),
  gd 14 true (some 15) (ip 15 (pFaddr 4 (tg 1))),
  gd 14 true (some 16) (il 16 (tg 15) (mLoad1 (tg 15))),
  ip 17 (pPick (tg 14) (tg 16) (cv (.bool false))),
  ip 10 (pMov (tg 17))]
@[simp] def ob2_4_ap := ops_rule (c := ob2_4) rfl
def ob2_5 : List DA := [⟨CI.pure (pFaddr 1 (tg 1)), (some 18), none, 0, []⟩,
  ⟨CI.load (tg 18) (mLoad1 (tg 18)), (some 19), none, 1, []⟩,
  ⟨CI.pure (pMov (cv (.int .i64 3))), (some 2), none, 2, []⟩,
  ⟨CI.pure (pMov (tg 19)), (some 3), none, 3, []⟩]
@[simp] def ob2_5_ap := das_rule (c := ob2_5) rfl
def cb2_2 : SC := sSeq (sAny ob2_5) sRet
@[simp] def cb2_2_ap := seq_rule (c := cb2_2) rfl
def ob2_6 : List IS := [ip 21 (pFaddr 0 (tg 1)),
  il 22 (tg 21) (mLoad1 (tg 21)),
  ip 23 (pBin .eql (tg 22) (cv (.int .i64 5))),
  ip 20 (pMov (tg 23))]
@[simp] def ob2_6_ap := ops_rule (c := ob2_6) rfl
def ob2_7 : List IS := [ip 2 (pMov (cv (.int .i64 1))),
  ip 3 (pMov (cv (.int .i64 0)))]
@[simp] def ob2_7_ap := ops_rule (c := ob2_7) rfl
def cb2_3 : SC := sSeq (sReg (seqI ob2_7)) sRet
@[simp] def cb2_3_ap := seq_rule (c := cb2_3) rfl
def ob2_8 : List IS := [ip 25 (pFaddr 0 (tg 1)),
  il 26 (tg 25) (mLoad1 (tg 25)),
  ip 27 (pBin .eql (tg 26) (cv (.int .i64 6))),
  ip 24 (pMov (tg 27))]
@[simp] def ob2_8_ap := ops_rule (c := ob2_8) rfl
def ob2_9 : List IS := [ip 2 (pMov (cv (.int .i64 4))),
  ip 3 (pMov (cv (.int .i64 0)))]
@[simp] def ob2_9_ap := ops_rule (c := ob2_9) rfl
def cb2_4 : SC := sSeq (sReg (seqI ob2_9)) sRet
@[simp] def cb2_4_ap := seq_rule (c := cb2_4) rfl
def ob2_10 : List IS := [ip 29 (pFaddr 0 (tg 1)),
  il 30 (tg 29) (mLoad1 (tg 29)),
  ip 31 (pBin .eql (tg 30) (cv (.int .i64 7))),
  ip 28 (pMov (tg 31))]
@[simp] def ob2_10_ap := ops_rule (c := ob2_10) rfl
def ob2_11 : List IS := [ip 2 (pMov (cv (.int .i64 5))),
  ip 3 (pMov (cv (.int .i64 0)))]
@[simp] def ob2_11_ap := ops_rule (c := ob2_11) rfl
def cb2_5 : SC := sSeq (sReg (seqI ob2_11)) sRet
@[simp] def cb2_5_ap := seq_rule (c := cb2_5) rfl
def cb2_6 : SC := sCond (tg 28) cb2_5 sSkip
@[simp] def cb2_6_ap := cond_rule (c := cb2_6) rfl
def cb2_7 : SC := sSeq (sReg (seqI ob2_10)) cb2_6
@[simp] def cb2_7_ap := seq_rule (c := cb2_7) rfl
def cb2_8 : SC := sCond (tg 24) cb2_4 cb2_7
@[simp] def cb2_8_ap := cond_rule (c := cb2_8) rfl
def cb2_9 : SC := sSeq (sReg (seqI ob2_8)) cb2_8
@[simp] def cb2_9_ap := seq_rule (c := cb2_9) rfl
def cb2_10 : SC := sCond (tg 20) cb2_3 cb2_9
@[simp] def cb2_10_ap := cond_rule (c := cb2_10) rfl
def cb2_11 : SC := sSeq (sReg (seqI ob2_6)) cb2_10
@[simp] def cb2_11_ap := seq_rule (c := cb2_11) rfl
def cb2_12 : SC := sCond (tg 10) cb2_2 cb2_11
@[simp] def cb2_12_ap := cond_rule (c := cb2_12) rfl
def cb2_13 : SC := sSeq (sReg (seqI ob2_4)) cb2_12
@[simp] def cb2_13_ap := seq_rule (c := cb2_13) rfl
def cb2_14 : SC := sCond (tg 4) cb2_1 cb2_13
@[simp] def cb2_14_ap := cond_rule (c := cb2_14) rfl
def cb2_15 : SC := sSeq (sReg (seqI ob2_2)) cb2_14
@[simp] def cb2_15_ap := seq_rule (c := cb2_15) rfl
def cb2_16 : SC := sBlock 0 cb2_15
@[simp] def cb2_16_ap := block_rule (c := cb2_16) rfl
def ob2_12 : List IS := [ip 2 (pMov (cv (.int .i64 0))),
  ip 3 (pMov (cv (.int .i64 0)))]
@[simp] def ob2_12_ap := ops_rule (c := ob2_12) rfl
def cb2_17 : SC := sSeq (sReg (seqI ob2_12)) sRet
@[simp] def cb2_17_ap := seq_rule (c := cb2_17) rfl
def cb2_18 : SC := sSeq cb2_16 cb2_17
@[simp] def cb2_18_ap := seq_rule (c := cb2_18) rfl
def cb2_19 : SC := sSeq (sReg (seqI ob2_1)) cb2_18
@[simp] def cb2_19_ap := seq_rule (c := cb2_19) rfl
def db2 : DFn := ⟨cb2_19, 32, [.t 2, .t 3]⟩
theorem db2_ok : fnOf Try.prog 24 = some db2 := by kernel_rfl
def ob3_1 : List IS := [ip 2 (pMov (cv (.pointer none)))]
@[simp] def ob3_1_ap := ops_rule (c := ob3_1) rfl
def ob3_2 : List IS := [ip 4 (pMov (tg 0)),
  ip 5 (pNilck (tg 4)),
  il 6 (tg 5) (mLoadN 88 (tg 5)),
  im 1 3 (mAlloc [(.slice none 0 0), (.int .i64 0), (.int .u64 0), (.int .u64 0), (.int .u64 0), (.int .u64 0), (.int .u64 0), (.int .u64 0), (.int .u64 0), (.int .u64 0), (.int .u64 0), (.int .u64 0), (.int .u64 0), (.int .u64 0), (.int .u64 0), (.int .u64 0), (.int .u64 0), (.int .u64 0), (.int .u64 0), (.int .u64 0), (.int .u64 0), (.int .u64 0), (.int .u64 0), (.int .u64 0), (.int .u64 0), (.int .u64 0), (.int .u64 0), (.int .u64 0), (.int .u64 0), (.int .u64 0), (.int .u64 0), (.int .u64 0), (.int .u64 0), (.int .u64 0), (.slice none 0 0), (.slice none 0 0), (.slice none 0 0), (.slice none 0 0), (.slice none 0 0), (.slice none 0 0), (.slice none 0 0), (.slice none 0 0), (.slice none 0 0), (.slice none 0 0), (.slice none 0 0), (.slice none 0 0), (.slice none 0 0), (.slice none 0 0), (.slice none 0 0), (.slice none 0 0), (.slice none 0 0), (.slice none 0 0), (.slice none 0 0), (.slice none 0 0), (.slice none 0 0), (.slice none 0 0), (.slice none 0 0), (.slice none 0 0), (.slice none 0 0), (.slice none 0 0), (.slice none 0 0), (.slice none 0 0), (.slice none 0 0), (.slice none 0 0), (.slice none 0 0), (.slice none 0 0), (.bool false), (.bool false), (.bool false), (.bool false), (.slice none 0 0), (.slice none 0 0), (.bool false), (.int .i64 0), (.int .i64 0), (.pointer none), (.int .i64 0), (.int .i64 0), (.slice none 0 0), (.slice none 0 0), (.slice none 0 0), (.slice none 0 0), (.slice none 0 0), (.slice none 0 0), (.int .i64 0), (.int .i64 0), (.int .i64 0), (.int .i64 0)]),
  im0 3 (mStore 88 (tg 3) (tg 6))]
@[simp] def ob3_2_ap := ops_rule (c := ob3_2) rfl
def ob3_3 : List IS := [ip 7 (pMov (tg 0)),
  ip 8 (pNilck (tg 7)),
  ip 9 (pFaddr 78 (tg 8)),
  il 10 (tg 9) (mLoadN 9 (tg 9)),
  im 3 11 (mCall 38 [(tg 10)]),
  ip 12 (pFaddr 78 (tg 3)),
  im0 3 (mStore 9 (tg 12) (tg 11))]
@[simp] def ob3_3_ap := ops_rule (c := ob3_3) rfl
def ob3_4 : List IS := [ip 2 (pMov (tg 3))]
@[simp] def ob3_4_ap := ops_rule (c := ob3_4) rfl
def cb3_1 : SC := sSeq (sReg (seqI ob3_4)) sRet
@[simp] def cb3_1_ap := seq_rule (c := cb3_1) rfl
def cb3_2 : SC := sSeq (sReg (seqI ob3_3)) cb3_1
@[simp] def cb3_2_ap := seq_rule (c := cb3_2) rfl
def cb3_3 : SC := sSeq (sReg (seqI ob3_2)) cb3_2
@[simp] def cb3_3_ap := seq_rule (c := cb3_3) rfl
def cb3_4 : SC := sSeq (sReg (seqI ob3_1)) cb3_3
@[simp] def cb3_4_ap := seq_rule (c := cb3_4) rfl
def db3 : DFn := ⟨cb3_4, 13, [.t 2]⟩
theorem db3_ok : fnOf Try.prog 25 = some db3 := by kernel_rfl
def ob4_1 : List IS := [ip 4 (pMov (cv (.slice none 0 0))),
  ip 5 (pMov (cv (.int .i64 0))),
  ip 6 (pMov (cv (.int .i64 0)))]
@[simp] def ob4_1_ap := ops_rule (c := ob4_1) rfl
def ob4_2 : List IS := [ip 11 (pMov (tg 0)),
  ip 12 (pLen (tg 11)),
  ip 13 (pBin .gtr (tg 12) (cv (.int .i64 16384)))]
@[simp] def ob4_2_ap := ops_rule (c := ob4_2) rfl
def ob4_3 : List IS := [ip 4 (pMov (cv (.slice none 0 0))),
  ip 5 (pMov (cv (.int .i64 16384))),
  ip 6 (pMov (cv (.int .i64 2)))]
def cb4_1 : SC := sSeq (sReg (seqI ob4_3)) sRet
def cb4_2 : SC := sCond (tg 13) cb4_1 sSkip
@[simp] def cb4_2_ap := cond_rule (c := cb4_2) rfl
def cb4_3 : SC := sSeq (sReg (seqI ob4_2)) cb4_2
@[simp] def cb4_3_ap := seq_rule (c := cb4_3) rfl
def ob4_4 : List IS := [ip 14 (pMov (tg 0)),
  ip 15 (pLen (tg 14)),
  ip 16 (pMov (cv (.int .i64 0)))]
@[simp] def ob4_4_ap := ops_rule (c := ob4_4) rfl
def ob4_5 : List IS := [ip 17 (pBin .lss (tg 16) (tg 15))]
@[simp] def ob4_5_ap := ops_rule (c := ob4_5) rfl
def cb4_4 : SC := sCond (tg 17) sSkip (sExit 0)
@[simp] def cb4_4_ap := cond_rule (c := cb4_4) rfl
def ob4_6 : List IS := [ip 18 (pMov (tg 16)),
  ip 19 (pIaddrS 1 (tg 14) (tg 16)),
  il 20 (tg 19) (mLoad1 (tg 19)),
  ip 7 (pMov (tg 18)),
  ip 8 (pMov (tg 20))]
@[simp] def ob4_6_ap := ops_rule (c := ob4_6) rfl
def ob4_7 : List IS := [ip 22 (pMov (tg 1)),
  ip 23 (pMov (tg 8)),
  im 3 24 (mCallv (tg 22) [(tg 23)]),
  ip 21 (pMov (tg 24)),
  ip 25 (pExtract (tg 21) 0),
  ip 26 (pExtract (tg 21) 1),
  im 1 9 (mAlloc [(.int .i64 0), (.int .i64 0), (.int .i64 0), (.int .i64 0), (.int .i64 0), (.int .i64 0)]),
  im0 3 (mStore 6 (tg 9) (tg 25)),
  ip 10 (pMov (tg 26))]
@[simp] def ob4_7_ap := ops_rule (c := ob4_7) rfl
def ob4_8 : List IS := [ip 27 (pMov (tg 10)),
  ip 28 (pBin .neq (tg 27) (cv (.int .i64 0)))]
@[simp] def ob4_8_ap := ops_rule (c := ob4_8) rfl
def ob4_9 : List IS := [ip 29 (pMov (tg 7)),
  ip 30 (pMov (tg 10)),
  ip 4 (pMov (cv (.slice none 0 0))),
  ip 5 (pMov (tg 29)),
  ip 6 (pMov (tg 30))]
def cb4_5 : SC := sSeq (sReg (seqI ob4_9)) sRet
def cb4_6 : SC := sCond (tg 28) cb4_5 sSkip
@[simp] def cb4_6_ap := cond_rule (c := cb4_6) rfl
def cb4_7 : SC := sSeq (sReg (seqI ob4_8)) cb4_6
@[simp] def cb4_7_ap := seq_rule (c := cb4_7) rfl
def ob4_10 : List IS := [ip 31 (pMov (tg 4)),
  il 32 (tg 9) (mLoadN 6 (tg 9)),
  im 1 33 (mBslice 6 1 (rep 1 [(.int .i64 0), (.int .i64 0), (.int .i64 0), (.int .i64 0), (.int .i64 0), (.int .i64 0)]) [(0, 6, (tg 32))]),
  im 3 34 (mAppend 6 48 (tg 31) (tg 33)),
  ip 4 (pMov (tg 34))]
@[simp] def ob4_10_ap := ops_rule (c := ob4_10) rfl
def cb4_8 : SC := sSeq cb4_7 (sReg (seqI ob4_10))
@[simp] def cb4_8_ap := seq_rule (c := cb4_8) rfl
def cb4_9 : SC := sSeq (sReg (seqI ob4_7)) cb4_8
@[simp] def cb4_9_ap := seq_rule (c := cb4_9) rfl
def cb4_10 : SC := sSeq (sReg (seqI ob4_6)) cb4_9
@[simp] def cb4_10_ap := seq_rule (c := cb4_10) rfl
def cb4_11 : SC := sBlock 1 cb4_10
@[simp] def cb4_11_ap := block_rule (c := cb4_11) rfl
def ob4_11 : List IS := [ip 35 (pBin .add (tg 16) (cv (.int .i64 1))),
  ip 16 (pMov (tg 35))]
@[simp] def ob4_11_ap := ops_rule (c := ob4_11) rfl
def cb4_12 : SC := sSeq cb4_11 (sReg (seqI ob4_11))
@[simp] def cb4_12_ap := seq_rule (c := cb4_12) rfl
def cb4_13 : SC := sSeq cb4_4 cb4_12
@[simp] def cb4_13_ap := seq_rule (c := cb4_13) rfl
def cb4_14 : SC := sSeq (sReg (seqI ob4_5)) cb4_13
@[simp] def cb4_14_ap := seq_rule (c := cb4_14) rfl
def cb4_15 : SC := sLoop cb4_14
def cb4_16 : SC := sBlock 0 cb4_15
@[simp] def cb4_16_ap := block_rule (c := cb4_16) rfl
def cb4_17 : SC := sSeq (sReg (seqI ob4_4)) cb4_16
@[simp] def cb4_17_ap := seq_rule (c := cb4_17) rfl
def ob4_12 : List IS := [ip 36 (pMov (tg 4)),
  ip 4 (pMov (tg 36)),
  ip 5 (pMov (cv (.int .i64 0))),
  ip 6 (pMov (cv (.int .i64 0)))]
@[simp] def ob4_12_ap := ops_rule (c := ob4_12) rfl
def cb4_18 : SC := sSeq (sReg (seqI ob4_12)) sRet
@[simp] def cb4_18_ap := seq_rule (c := cb4_18) rfl
def cb4_19 : SC := sSeq cb4_17 cb4_18
@[simp] def cb4_19_ap := seq_rule (c := cb4_19) rfl
def cb4_20 : SC := sSeq cb4_3 cb4_19
@[simp] def cb4_20_ap := seq_rule (c := cb4_20) rfl
def cb4_21 : SC := sSeq (sReg (seqI ob4_1)) cb4_20
@[simp] def cb4_21_ap := seq_rule (c := cb4_21) rfl
def db4 : DFn := ⟨cb4_21, 37, [.t 4, .t 5, .t 6]⟩
theorem db4_ok : fnOf Try.prog 28 = some db4 := by kernel_rfl
def ob6_1 : List IS := [im 1 3 (mBox (tg 1)),
  im 1 4 (mAlloc [(.int .i64 0), (.int .i64 0), (.int .i64 0), (.int .u64 0), (.bool false), (.bool false)])]
@[simp] def ob6_1_ap := ops_rule (c := ob6_1) rfl
def ob6_2 : List IS := [ip 6 (pMov (tg 0)),
  ip 7 (pNilck (tg 6)),
  ip 8 (pFaddr 78 (tg 7)),
  ip 9 (pFaddr 0 (tg 8)),
  il 10 (tg 9) (mLoad1 (tg 9)),
  ip 11 (pLen (tg 10)),
  ip 5 (pMov (tg 11))]
@[simp] def ob6_2_ap := ops_rule (c := ob6_2) rfl
def ob6_3 : List IS := [ip 12 (pFaddr 5 (tg 3)),
  il 13 (tg 12) (mLoad1 (tg 12))]
@[simp] def ob6_3_ap := ops_rule (c := ob6_3) rfl
def ob6_4 : List IS := [ip 14 (pMov (tg 5)),
  ip 15 (pBin .add (tg 14) (cv (.int .i64 1))),
  ip 5 (pMov (tg 15))]
@[simp] def ob6_4_ap := ops_rule (c := ob6_4) rfl
def cb6_1 : SC := sCond (tg 13) (sReg (seqI ob6_4)) sSkip
@[simp] def cb6_1_ap := cond_rule (c := cb6_1) rfl
def cb6_2 : SC := sSeq (sReg (seqI ob6_3)) cb6_1
@[simp] def cb6_2_ap := seq_rule (c := cb6_2) rfl
def ob6_5 : List IS := [ip 16 (pMov (tg 5)),
  ip 17 (pBin .geq (tg 16) (cv (.int .i64 256)))]
@[simp] def ob6_5_ap := ops_rule (c := ob6_5) rfl
def ob6_6 : List IS := [ip 18 (pBuild [(.int .i64 0), (.int .i64 0), (.int .i64 0), (.int .u64 0), (.bool false), (.bool false)] [(0, 1, (cv (.int .i64 6)))]),
  im0 3 (mStore 6 (tg 4) (tg 18))]
@[simp] def ob6_6_ap := ops_rule (c := ob6_6) rfl
def cb6_3 : SC := sSeq (sReg (seqI ob6_6)) sRet
@[simp] def cb6_3_ap := seq_rule (c := cb6_3) rfl
def cb6_4 : SC := sCond (tg 17) cb6_3 sSkip
@[simp] def cb6_4_ap := cond_rule (c := cb6_4) rfl
def cb6_5 : SC := sSeq (sReg (seqI ob6_5)) cb6_4
@[simp] def cb6_5_ap := seq_rule (c := cb6_5) rfl
def ob6_7 : List IS := [il 19 (tg 3) (mLoadN 6 (tg 3)),
  im0 3 (mStore 6 (tg 4) (tg 19))]
@[simp] def ob6_7_ap := ops_rule (c := ob6_7) rfl
def cb6_6 : SC := sSeq (sReg (seqI ob6_7)) sRet
@[simp] def cb6_6_ap := seq_rule (c := cb6_6) rfl
def cb6_7 : SC := sSeq cb6_5 cb6_6
@[simp] def cb6_7_ap := seq_rule (c := cb6_7) rfl
def cb6_8 : SC := sSeq cb6_2 cb6_7
@[simp] def cb6_8_ap := seq_rule (c := cb6_8) rfl
def cb6_9 : SC := sSeq (sReg (seqI ob6_2)) cb6_8
@[simp] def cb6_9_ap := seq_rule (c := cb6_9) rfl
def cb6_10 : SC := sSeq (sReg (seqI ob6_1)) cb6_9
@[simp] def cb6_10_ap := seq_rule (c := cb6_10) rfl
def db6 : DFn := ⟨cb6_10, 20, [.cell 4 6]⟩
theorem db6_ok : fnOf Try.prog 30 = some db6 := by kernel_rfl
def ob7_1 : List IS := [im 1 3 (mBox (tg 1)),
  ip 4 (pMov (cv (.int .i64 0))),
  ip 5 (pMov (cv (.bool false)))]
@[simp] def ob7_1_ap := ops_rule (c := ob7_1) rfl
def ob7_2 : List DA := [⟨CI.pure (pMov (tg 0)), (some 7), none, 0, []⟩,
  ⟨CI.pure (pFaddr 2 (tg 3)), (some 8), none, 1, []⟩,
  ⟨CI.load (tg 8) (mLoad1 (tg 8)), (some 9), none, 2, []⟩,
  ⟨CI.pure (pNilck (tg 7)), (some 10), none, 3, []⟩,
  ⟨CI.pure (pFaddr 2 (tg 10)), (some 11), none, 4, []⟩,
  ⟨CI.pure (pFaddr 0 (tg 11)), (some 12), none, 5, []⟩,
  ⟨CI.pure (pIaddrA 32 1 (tg 12) (tg 9)), (some 13), none, 6, []⟩,
  ⟨CI.load (tg 13) (mLoad1 (tg 13)), (some 14), none, 7, []⟩,
  ⟨CI.pure (pFaddr 4 (tg 3)), (some 15), none, 8, []⟩,
  ⟨CI.load (tg 15) (mLoad1 (tg 15)), (some 16), none, 9, []⟩,
  ⟨CI.pure (pConvI .u64 (tg 16)), (some 17), none, 10, []⟩,
  ⟨CI.pure (pBin .add (tg 14) (tg 17)), (some 18), none, 11, []⟩,
  ⟨CI.pure (pBin .sub (tg 18) (cv (.int .u64 65536))), (some 19), none, 12, []⟩,
  ⟨CI.pure (pMov (tg 19)), (some 6), none, 13, []⟩]
@[simp] def ob7_2_ap := das_rule (c := ob7_2) rfl
def ob7_3 : List IS := [ip 20 (pMov (tg 6)),
  ip 21 (pBin .quo (tg 20) (cv (.int .u64 8))),
  ip 22 (pConvI .i64 (tg 21)),
  ip 23 (pMov (tg 6)),
  ip 24 (pBin .rem (tg 23) (cv (.int .u64 8))),
  ip 25 (pBin .eql (tg 24) (cv (.int .u64 0))),
  ip 26 (pMov (tg 25)),
  gd 26 true (some 27) (ip 27 (pMov (tg 6))),
  gd 26 true (some 28) (ip 28 (pBin .quo (tg 27) (cv (.int .u64 8)))),
  gd 26 true (some 29) (ip 29 (pBin .lss (tg 28) (cv (.int .u64 4096)))),
  ip 30 (pPick (tg 26) (tg 29) (cv (.bool false))),
  ip 4 (pMov (tg 22)),
  ip 5 (pMov (tg 30))]
@[simp] def ob7_3_ap := ops_rule (c := ob7_3) rfl
def cb7_1 : SC := sSeq (sReg (seqI ob7_3)) sRet
@[simp] def cb7_1_ap := seq_rule (c := cb7_1) rfl
def cb7_2 : SC := sSeq (sAny ob7_2) cb7_1
@[simp] def cb7_2_ap := seq_rule (c := cb7_2) rfl
def cb7_3 : SC := sSeq (sReg (seqI ob7_1)) cb7_2
@[simp] def cb7_3_ap := seq_rule (c := cb7_3) rfl
def db7 : DFn := ⟨cb7_3, 31, [.t 4, .t 5]⟩
theorem db7_ok : fnOf Try.prog 31 = some db7 := by kernel_rfl
def ob8_1 : List IS := [im 1 2 (mBox (tg 0)),
  im 1 3 (mBox (tg 1)),
  im 1 4 (mAlloc [(.int .i64 0), (.int .i64 0), (.int .i64 0), (.int .u64 0), (.bool false), (.bool false)])]
@[simp] def ob8_1_ap := ops_rule (c := ob8_1) rfl
def ob8_2 : List IS := [ip 5 (pFaddr 0 (tg 2)),
  il 6 (tg 5) (mLoad1 (tg 5)),
  ip 7 (pBin .geq (tg 6) (cv (.int .i64 36))),
  ip 8 (pFaddr 5 (tg 3)),
  im0 3 (mStore 1 (tg 8) (tg 7))]
@[simp] def ob8_2_ap := ops_rule (c := ob8_2) rfl
def ob8_3 : List IS := [ip 10 (pFaddr 0 (tg 2)),
  il 11 (tg 10) (mLoad1 (tg 10)),
  ip 12 (pBin .eql (tg 11) (cv (.int .i64 35))),
  ip 9 (pMov (tg 12))]
@[simp] def ob8_3_ap := ops_rule (c := ob8_3) rfl
def ob8_4 : List IS := [ip 13 (pFaddr 2 (tg 3)),
  im0 3 (mStore 1 (tg 13) (cv (.int .i64 16)))]
@[simp] def ob8_4_ap := ops_rule (c := ob8_4) rfl
def ob8_5 : List IS := [ip 15 (pFaddr 0 (tg 2)),
  il 16 (tg 15) (mLoad1 (tg 15)),
  ip 17 (pBin .sub (tg 16) (cv (.int .i64 36))),
  ip 18 (pBin .rem (tg 17) (cv (.int .i64 2))),
  ip 19 (pBin .eql (tg 18) (cv (.int .i64 1))),
  ip 14 (pMov (tg 19))]
@[simp] def ob8_5_ap := ops_rule (c := ob8_5) rfl
def ob8_6 : List IS := [ip 20 (pFaddr 2 (tg 3)),
  im0 3 (mStore 1 (tg 20) (cv (.int .i64 12)))]
@[simp] def ob8_6_ap := ops_rule (c := ob8_6) rfl
def cb8_1 : SC := sCond (tg 14) (sReg (seqI ob8_6)) sSkip
@[simp] def cb8_1_ap := cond_rule (c := cb8_1) rfl
def cb8_2 : SC := sSeq (sReg (seqI ob8_5)) cb8_1
@[simp] def cb8_2_ap := seq_rule (c := cb8_2) rfl
def cb8_3 : SC := sCond (tg 9) (sReg (seqI ob8_4)) cb8_2
@[simp] def cb8_3_ap := cond_rule (c := cb8_3) rfl
def cb8_4 : SC := sSeq (sReg (seqI ob8_3)) cb8_3
@[simp] def cb8_4_ap := seq_rule (c := cb8_4) rfl
def cb8_5 : SC := sBlock 0 cb8_4
@[simp] def cb8_5_ap := block_rule (c := cb8_5) rfl
def ob8_7 : List IS := [il 21 (tg 3) (mLoadN 6 (tg 3)),
  im0 3 (mStore 6 (tg 4) (tg 21))]
@[simp] def ob8_7_ap := ops_rule (c := ob8_7) rfl
def cb8_6 : SC := sSeq (sReg (seqI ob8_7)) sRet
@[simp] def cb8_6_ap := seq_rule (c := cb8_6) rfl
def cb8_7 : SC := sSeq cb8_5 cb8_6
@[simp] def cb8_7_ap := seq_rule (c := cb8_7) rfl
def cb8_8 : SC := sSeq (sReg (seqI ob8_2)) cb8_7
@[simp] def cb8_8_ap := seq_rule (c := cb8_8) rfl
def cb8_9 : SC := sSeq (sReg (seqI ob8_1)) cb8_8
@[simp] def cb8_9_ap := seq_rule (c := cb8_9) rfl
def db8 : DFn := ⟨cb8_9, 22, [.cell 4 6]⟩
theorem db8_ok : fnOf Try.prog 32 = some db8 := by kernel_rfl
def ob9_1 : List IS := [im 1 1 (mBox (tg 0)),
  im 1 2 (mAlloc [(.slice none 0 0), (.slice none 0 0), (.slice none 0 0), (.slice none 0 0), (.slice none 0 0), (.slice none 0 0), (.int .i64 0), (.int .i64 0), (.int .i64 0)])]
@[simp] def ob9_1_ap := ops_rule (c := ob9_1) rfl
def ob9_2 : List DA := [⟨CI.pure (pFaddr 0 (tg 1)), (some 3), none, 0, []⟩,
  ⟨CI.load (tg 3) (mLoad1 (tg 3)), (some 4), none, 1, []⟩,
  ⟨CI.mem 3 (mCall 56 [(tg 4)]), (some 5), none, 2, []⟩,
  ⟨CI.pure (pFaddr 5 (tg 1)), (some 6), none, 3, []⟩,
  ⟨CI.load (tg 6) (mLoad1 (tg 6)), (some 7), none, 4, [2]⟩,
  ⟨CI.mem 3 (mCall 57 [(tg 7)]), (some 8), none, 5, []⟩,
  ⟨CI.pure (pFaddr 0 (tg 1)), (some 9), none, 6, []⟩,
  ⟨CI.mem 3 (mStore 1 (tg 9) (tg 5)), none, none, 7, []⟩,
  ⟨CI.pure (pFaddr 5 (tg 1)), (some 10), none, 8, []⟩,
  ⟨CI.mem 3 (mStore 1 (tg 10) (tg 8)), none, none, 9, []⟩]
@[simp] def ob9_2_ap := das_rule (c := ob9_2) rfl
def ob9_3 : List DA := [⟨CI.pure (pFaddr 1 (tg 1)), (some 11), none, 0, []⟩,
  ⟨CI.load (tg 11) (mLoad1 (tg 11)), (some 12), none, 1, []⟩,
  ⟨CI.mem 3 (mCall 58 [(tg 12)]), (some 13), none, 2, []⟩,
  ⟨CI.pure (pFaddr 2 (tg 1)), (some 14), none, 3, []⟩,
  ⟨CI.load (tg 14) (mLoad1 (tg 14)), (some 15), none, 4, [2]⟩,
  ⟨CI.mem 3 (mCall 58 [(tg 15)]), (some 16), none, 5, []⟩,
  ⟨CI.pure (pFaddr 3 (tg 1)), (some 17), none, 6, []⟩,
  ⟨CI.load (tg 17) (mLoad1 (tg 17)), (some 18), none, 7, [2, 5]⟩,
  ⟨CI.mem 3 (mCall 58 [(tg 18)]), (some 19), none, 8, []⟩,
  ⟨CI.pure (pFaddr 4 (tg 1)), (some 20), none, 9, []⟩,
  ⟨CI.load (tg 20) (mLoad1 (tg 20)), (some 21), none, 10, [2, 5, 8]⟩,
  ⟨CI.mem 3 (mCall 58 [(tg 21)]), (some 22), none, 11, []⟩,
  ⟨CI.pure (pFaddr 1 (tg 1)), (some 23), none, 12, []⟩,
  ⟨CI.mem 3 (mStore 1 (tg 23) (tg 13)), none, none, 13, []⟩,
  ⟨CI.pure (pFaddr 2 (tg 1)), (some 24), none, 14, []⟩,
  ⟨CI.mem 3 (mStore 1 (tg 24) (tg 16)), none, none, 15, []⟩,
  ⟨CI.pure (pFaddr 3 (tg 1)), (some 25), none, 16, []⟩,
  ⟨CI.mem 3 (mStore 1 (tg 25) (tg 19)), none, none, 17, []⟩,
  ⟨CI.pure (pFaddr 4 (tg 1)), (some 26), none, 18, []⟩,
  ⟨CI.mem 3 (mStore 1 (tg 26) (tg 22)), none, none, 19, []⟩]
@[simp] def ob9_3_ap := das_rule (c := ob9_3) rfl
def ob9_4 : List IS := [il 27 (tg 1) (mLoadN 9 (tg 1)),
  im0 3 (mStore 9 (tg 2) (tg 27))]
@[simp] def ob9_4_ap := ops_rule (c := ob9_4) rfl
def cb9_1 : SC := sSeq (sReg (seqI ob9_4)) sRet
@[simp] def cb9_1_ap := seq_rule (c := cb9_1) rfl
def cb9_2 : SC := sSeq (sAny ob9_3) cb9_1
@[simp] def cb9_2_ap := seq_rule (c := cb9_2) rfl
def cb9_3 : SC := sSeq (sAny ob9_2) cb9_2
@[simp] def cb9_3_ap := seq_rule (c := cb9_3) rfl
def cb9_4 : SC := sSeq (sReg (seqI ob9_1)) cb9_3
@[simp] def cb9_4_ap := seq_rule (c := cb9_4) rfl
def db9 : DFn := ⟨cb9_4, 28, [.cell 2 9]⟩
theorem db9_ok : fnOf Try.prog 38 = some db9 := by kernel_rfl
def oc0_1 : List IS := [ip 5 (pMov (tg 0)),
  ip 6 (pLen (tg 5)),
  ip 4 (pMov (tg 6))]
@[simp] def oc0_1_ap := ops_rule (c := oc0_1) rfl
def oc0_2 : List IS := [ip 7 (pMov (tg 0)),
  ip 8 (pMov (tg 4)),
  ip 9 (pMov (tg 4)),
  ip 10 (pConvI .u64 (tg 9)),
  im 3 11 (mCall 60 [(tg 10)]),
  ip 12 (pMov (tg 1)),
  im 3 13 (mCall 59 [(tg 7), (cv (.int .i64 0)), (tg 8), (tg 11), (tg 12)])]
@[simp] def oc0_2_ap := ops_rule (c := oc0_2) rfl
def cc0_1 : SC := sSeq (sReg (seqI oc0_1)) (sReg (seqI oc0_2))
@[simp] def cc0_1_ap := seq_rule (c := cc0_1) rfl
def dc0 : DFn := ⟨cc0_1, 14, []⟩
theorem dc0_ok : fnOf Try.prog 39 = some dc0 := by kernel_rfl
def oc6_1 : List IS := [ip 2 (pMov (cv (.slice none 0 0)))]
@[simp] def oc6_1_ap := ops_rule (c := oc6_1) rfl
def oc6_2 : List IS := [ip 3 (pMov (tg 0)),
  ip 4 (pEqN false nilS true (tg 3) (cv (.slice none 0 0)))]
@[simp] def oc6_2_ap := ops_rule (c := oc6_2) rfl
def oc6_3 : List IS := [ip 2 (pMov (cv (.slice none 0 0)))]
@[simp] def oc6_3_ap := ops_rule (c := oc6_3) rfl
def cc6_1 : SC := sSeq (sReg (seqI oc6_3)) sRet
@[simp] def cc6_1_ap := seq_rule (c := cc6_1) rfl
def cc6_2 : SC := sCond (tg 4) cc6_1 sSkip
@[simp] def cc6_2_ap := cond_rule (c := cc6_2) rfl
def cc6_3 : SC := sSeq (sReg (seqI oc6_2)) cc6_2
@[simp] def cc6_3_ap := seq_rule (c := cc6_3) rfl
def oc6_4 : List IS := [im 1 5 (mBslice 5 0 (rep 0 [(.int .i64 0), (.int .i64 0), (.int .i64 0), (.int .u64 0), (.int .i64 0)]) []),
  ip 6 (pMov (tg 0)),
  im 3 7 (mAppend 5 40 (tg 5) (tg 6)),
  ip 2 (pMov (tg 7))]
@[simp] def oc6_4_ap := ops_rule (c := oc6_4) rfl
def cc6_4 : SC := sSeq (sReg (seqI oc6_4)) sRet
@[simp] def cc6_4_ap := seq_rule (c := cc6_4) rfl
def cc6_5 : SC := sSeq cc6_3 cc6_4
@[simp] def cc6_5_ap := seq_rule (c := cc6_5) rfl
def cc6_6 : SC := sSeq (sReg (seqI oc6_1)) cc6_5
@[simp] def cc6_6_ap := seq_rule (c := cc6_6) rfl
def dc6 : DFn := ⟨cc6_6, 8, [.t 2]⟩
theorem dc6_ok : fnOf Try.prog 56 = some dc6 := by kernel_rfl
def oc7_1 : List IS := [ip 2 (pMov (cv (.slice none 0 0)))]
@[simp] def oc7_1_ap := ops_rule (c := oc7_1) rfl
def oc7_2 : List IS := [ip 3 (pMov (tg 0)),
  ip 4 (pEqN false nilS true (tg 3) (cv (.slice none 0 0)))]
@[simp] def oc7_2_ap := ops_rule (c := oc7_2) rfl
def oc7_3 : List IS := [ip 2 (pMov (cv (.slice none 0 0)))]
@[simp] def oc7_3_ap := ops_rule (c := oc7_3) rfl
def cc7_1 : SC := sSeq (sReg (seqI oc7_3)) sRet
@[simp] def cc7_1_ap := seq_rule (c := cc7_1) rfl
def cc7_2 : SC := sCond (tg 4) cc7_1 sSkip
@[simp] def cc7_2_ap := cond_rule (c := cc7_2) rfl
def cc7_3 : SC := sSeq (sReg (seqI oc7_2)) cc7_2
@[simp] def cc7_3_ap := seq_rule (c := cc7_3) rfl
def oc7_4 : List IS := [im 1 5 (mBslice 1 0 (rep 0 [(.int .u64 0)]) []),
  ip 6 (pMov (tg 0)),
  im 3 7 (mAppend 1 8 (tg 5) (tg 6)),
  ip 2 (pMov (tg 7))]
@[simp] def oc7_4_ap := ops_rule (c := oc7_4) rfl
def cc7_4 : SC := sSeq (sReg (seqI oc7_4)) sRet
@[simp] def cc7_4_ap := seq_rule (c := cc7_4) rfl
def cc7_5 : SC := sSeq cc7_3 cc7_4
@[simp] def cc7_5_ap := seq_rule (c := cc7_5) rfl
def cc7_6 : SC := sSeq (sReg (seqI oc7_1)) cc7_5
@[simp] def cc7_6_ap := seq_rule (c := cc7_6) rfl
def dc7 : DFn := ⟨cc7_6, 8, [.t 2]⟩
theorem dc7_ok : fnOf Try.prog 57 = some dc7 := by kernel_rfl
def oc8_1 : List IS := [ip 2 (pMov (cv (.slice none 0 0)))]
@[simp] def oc8_1_ap := ops_rule (c := oc8_1) rfl
def oc8_2 : List IS := [ip 3 (pMov (tg 0)),
  ip 4 (pEqN false nilS true (tg 3) (cv (.slice none 0 0)))]
@[simp] def oc8_2_ap := ops_rule (c := oc8_2) rfl
def oc8_3 : List IS := [ip 2 (pMov (cv (.slice none 0 0)))]
@[simp] def oc8_3_ap := ops_rule (c := oc8_3) rfl
def cc8_1 : SC := sSeq (sReg (seqI oc8_3)) sRet
@[simp] def cc8_1_ap := seq_rule (c := cc8_1) rfl
def cc8_2 : SC := sCond (tg 4) cc8_1 sSkip
@[simp] def cc8_2_ap := cond_rule (c := cc8_2) rfl
def cc8_3 : SC := sSeq (sReg (seqI oc8_2)) cc8_2
@[simp] def cc8_3_ap := seq_rule (c := cc8_3) rfl
def oc8_4 : List IS := [im 1 5 (mBslice 2 0 (rep 0 [(.int .i64 0), (.int .i64 0)]) []),
  ip 6 (pMov (tg 0)),
  im 3 7 (mAppend 2 16 (tg 5) (tg 6)),
  ip 2 (pMov (tg 7))]
@[simp] def oc8_4_ap := ops_rule (c := oc8_4) rfl
def cc8_4 : SC := sSeq (sReg (seqI oc8_4)) sRet
@[simp] def cc8_4_ap := seq_rule (c := cc8_4) rfl
def cc8_5 : SC := sSeq cc8_3 cc8_4
@[simp] def cc8_5_ap := seq_rule (c := cc8_5) rfl
def cc8_6 : SC := sSeq (sReg (seqI oc8_1)) cc8_5
@[simp] def cc8_6_ap := seq_rule (c := cc8_6) rfl
def dc8 : DFn := ⟨cc8_6, 8, [.t 2]⟩
theorem dc8_ok : fnOf Try.prog 58 = some dc8 := by kernel_rfl
def oc9_1 : List IS := [ip 10 (pMov (cv (.bool true)))]
@[simp] def oc9_1_ap := ops_rule (c := oc9_1) rfl
def oc9_2 : List IS := [ip 11 (pMov (cv (.bool true)))]
@[simp] def oc9_2_ap := ops_rule (c := oc9_2) rfl
def oc9_3 : List IS := [ip 21 (pMov (tg 2)),
  ip 22 (pMov (tg 1)),
  ip 23 (pBin .sub (tg 21) (tg 22)),
  ip 12 (pMov (tg 23))]
@[simp] def oc9_3_ap := ops_rule (c := oc9_3) rfl
def oc9_4 : List IS := [ip 24 (pMov (tg 12)),
  ip 25 (pBin .leq (tg 24) (cv (.int .i64 12)))]
@[simp] def oc9_4_ap := ops_rule (c := oc9_4) rfl
def oc9_5 : List IS := [ip 26 (pMov (tg 0)),
  ip 27 (pMov (tg 1)),
  ip 28 (pMov (tg 2)),
  ip 29 (pMov (tg 4)),
  im 3 30 (mCall 75 [(tg 26), (tg 27), (tg 28), (tg 29)])]
@[simp] def oc9_5_ap := ops_rule (c := oc9_5) rfl
def cc9_1 : SC := sSeq (sReg (seqI oc9_5)) sRet
@[simp] def cc9_1_ap := seq_rule (c := cc9_1) rfl
def cc9_2 : SC := sCond (tg 25) cc9_1 sSkip
@[simp] def cc9_2_ap := cond_rule (c := cc9_2) rfl
def cc9_3 : SC := sSeq (sReg (seqI oc9_4)) cc9_2
@[simp] def cc9_3_ap := seq_rule (c := cc9_3) rfl
def oc9_6 : List IS := [ip 31 (pMov (tg 3)),
  ip 32 (pBin .eql (tg 31) (cv (.int .i64 0)))]
def oc9_7 : List IS := [ip 33 (pMov (tg 0)),
  ip 34 (pMov (tg 1)),
  ip 35 (pMov (tg 2)),
  ip 36 (pMov (tg 4)),
  im 3 37 (mCall 76 [(tg 33), (tg 34), (tg 35), (tg 36)])]
def cc9_4 : SC := sSeq (sReg (seqI oc9_7)) sRet
def cc9_5 : SC := sCond (tg 32) cc9_4 sSkip
def cc9_6 : SC := sSeq (sReg (seqI oc9_6)) cc9_5
def oc9_8 : List IS := [ip 38 (pMov (tg 10)),
  ip 39 (pUn .not (tg 38))]
def oc9_9 : List IS := [ip 40 (pMov (tg 0)),
  ip 41 (pMov (tg 1)),
  ip 42 (pMov (tg 2)),
  ip 43 (pMov (tg 4)),
  im 3 44 (mCall 77 [(tg 40), (tg 41), (tg 42), (tg 43)])]
def oc9_10 : List IS := [ip 45 (pMov (tg 3)),
  ip 46 (pBin .sub (tg 45) (cv (.int .i64 1))),
  ip 3 (pMov (tg 46))]
def cc9_7 : SC := sSeq (sReg (seqI oc9_9)) (sReg (seqI oc9_10))
def cc9_8 : SC := sCond (tg 39) cc9_7 sSkip
def cc9_9 : SC := sSeq (sReg (seqI oc9_8)) cc9_8
def oc9_11 : List IS := [ip 48 (pMov (tg 0)),
  ip 49 (pMov (tg 1)),
  ip 50 (pMov (tg 2)),
  ip 51 (pMov (tg 4)),
  im 3 52 (mCall 78 [(tg 48), (tg 49), (tg 50), (tg 51)]),
  ip 47 (pMov (tg 52)),
  ip 53 (pExtract (tg 47) 0),
  ip 54 (pExtract (tg 47) 1),
  ip 13 (pMov (tg 53)),
  ip 14 (pMov (tg 54))]
def oc9_12 : List IS := [ip 55 (pMov (tg 14)),
  ip 56 (pBin .eql (tg 55) (cv (.int .i64 2)))]
def oc9_13 : List IS := [ip 57 (pMov (tg 0)),
  ip 58 (pMov (tg 1)),
  ip 59 (pMov (tg 2)),
  ip 60 (pMov (tg 4)),
  im 3 61 (mCall 79 [(tg 57), (tg 58), (tg 59), (tg 60)])]
def oc9_14 : List IS := [ip 62 (pMov (tg 2)),
  ip 63 (pBin .sub (tg 62) (cv (.int .i64 1))),
  ip 64 (pMov (tg 13)),
  ip 65 (pMov (tg 1)),
  ip 66 (pBin .sub (tg 64) (tg 65)),
  ip 67 (pBin .sub (tg 63) (tg 66)),
  ip 13 (pMov (tg 67))]
def oc9_15 : List IS := [ip 14 (pMov (cv (.int .i64 1)))]
def cc9_10 : SC := sSeq (sReg (seqI oc9_14)) (sReg (seqI oc9_15))
def cc9_11 : SC := sSeq (sReg (seqI oc9_13)) cc9_10
def cc9_12 : SC := sCond (tg 56) cc9_11 sSkip
def cc9_13 : SC := sSeq (sReg (seqI oc9_12)) cc9_12
def oc9_16 : List IS := [ip 68 (pMov (tg 10)),
  ip 69 (pMov (tg 68)),
  gd 69 true (some 70) (ip 70 (pMov (tg 11))),
  ip 71 (pPick (tg 69) (tg 70) (cv (.bool false))),
  ip 72 (pMov (tg 71)),
  gd 72 true (some 73) (ip 73 (pMov (tg 14))),
  gd 72 true (some 74) (ip 74 (pBin .eql (tg 73) (cv (.int .i64 1)))),
  ip 75 (pPick (tg 72) (tg 74) (cv (.bool false)))]
def oc9_17 : List IS := [ip 76 (pMov (tg 0)),
  ip 77 (pMov (tg 1)),
  ip 78 (pMov (tg 2)),
  ip 79 (pMov (tg 4)),
  im 3 80 (mCall 80 [(tg 76), (tg 77), (tg 78), (tg 79)])]
def cc9_14 : SC := sCond (tg 80) sRet sSkip
def cc9_15 : SC := sSeq (sReg (seqI oc9_17)) cc9_14
def cc9_16 : SC := sCond (tg 75) cc9_15 sSkip
def cc9_17 : SC := sSeq (sReg (seqI oc9_16)) cc9_16
def oc9_18 : List DA := [⟨CI.pure (pMov (tg 1)), (some 81), none, 0, []⟩,
  ⟨CI.pure (pBin .gtr (tg 81) (cv (.int .i64 0))), (some 82), none, 1, []⟩,
  ⟨CI.pure (pMov (tg 82)), (some 83), none, 2, []⟩,
  ⟨CI.pure (pMov (tg 4)), (some 84), (some (83, true)), 3, []⟩,
  ⟨CI.pure (pMov (tg 0)), (some 85), (some (83, true)), 4, []⟩,
  ⟨CI.pure (pMov (tg 1)), (some 86), (some (83, true)), 5, []⟩,
  ⟨CI.pure (pBin .sub (tg 86) (cv (.int .i64 1))), (some 87), (some (83, true)), 6, []⟩,
  ⟨CI.pure (pIaddrS 2 (tg 85) (tg 87)), (some 88), (some (83, true)), 7, []⟩,
  ⟨CI.load (tg 88) (mLoadN 2 (tg 88)), (some 89), (some (83, true)), 8, []⟩,
  ⟨CI.pure (pMov (tg 0)), (some 90), (some (83, true)), 9, []⟩,
  ⟨CI.pure (pMov (tg 13)), (some 91), (some (83, true)), 10, []⟩,
  ⟨CI.pure (pIaddrS 2 (tg 90) (tg 91)), (some 92), (some (83, true)), 11, []⟩,
  ⟨CI.load (tg 92) (mLoadN 2 (tg 92)), (some 93), (some (83, true)), 12, []⟩,
  ⟨CI.mem 3 (mCallv (tg 84) [(tg 89), (tg 93)]), (some 94), (some (83, true)), 13, []⟩,
  ⟨CI.pure (pBin .lss (tg 94) (cv (.int .i64 0))), (some 95), (some (83, true)), 14, []⟩,
  ⟨CI.pure (pUn .not (tg 95)), (some 96), (some (83, true)), 15, []⟩,
  ⟨CI.pure (pPick (tg 83) (tg 96) (cv (.bool false))), (some 97), none, 16, []⟩]
def oc9_19 : List IS := [ip 98 (pMov (tg 0)),
  ip 99 (pMov (tg 1)),
  ip 100 (pMov (tg 2)),
  ip 101 (pMov (tg 13)),
  ip 102 (pMov (tg 4)),
  im 3 103 (mCall 81 [(tg 98), (tg 99), (tg 100), (tg 101), (tg 102)]),
  ip 15 (pMov (tg 103))]
def oc9_20 : List IS := [ip 104 (pMov (tg 15)),
  ip 1 (pMov (tg 104))]
def cc9_18 : SC := sSeq (sReg (seqI oc9_20)) (sExit 1)
def cc9_19 : SC := sSeq (sReg (seqI oc9_19)) cc9_18
def cc9_20 : SC := sCond (tg 97) cc9_19 sSkip
def cc9_21 : SC := sSeq (sAny oc9_18) cc9_20
def oc9_21 : List IS := [ip 106 (pMov (tg 0)),
  ip 107 (pMov (tg 1)),
  ip 108 (pMov (tg 2)),
  ip 109 (pMov (tg 13)),
  ip 110 (pMov (tg 4)),
  im 3 111 (mCall 82 [(tg 106), (tg 107), (tg 108), (tg 109), (tg 110)]),
  ip 105 (pMov (tg 111)),
  ip 112 (pExtract (tg 105) 0),
  ip 113 (pExtract (tg 105) 1),
  ip 16 (pMov (tg 112)),
  ip 17 (pMov (tg 113))]
def oc9_22 : List IS := [ip 114 (pMov (tg 17)),
  ip 11 (pMov (tg 114))]
def oc9_23 : List IS := [ip 115 (pMov (tg 16)),
  ip 116 (pMov (tg 1)),
  ip 117 (pBin .sub (tg 115) (tg 116)),
  ip 118 (pMov (tg 2)),
  ip 119 (pMov (tg 16)),
  ip 120 (pBin .sub (tg 118) (tg 119)),
  ip 18 (pMov (tg 117)),
  ip 19 (pMov (tg 120))]
def oc9_24 : List IS := [ip 121 (pMov (tg 12)),
  ip 122 (pBin .quo (tg 121) (cv (.int .i64 8))),
  ip 20 (pMov (tg 122))]
def oc9_25 : List IS := [ip 123 (pMov (tg 18)),
  ip 124 (pMov (tg 19)),
  ip 125 (pBin .lss (tg 123) (tg 124))]
def oc9_26 : List IS := [ip 126 (pMov (tg 18)),
  ip 127 (pMov (tg 20)),
  ip 128 (pBin .geq (tg 126) (tg 127)),
  ip 10 (pMov (tg 128))]
def oc9_27 : List IS := [ip 129 (pMov (tg 0)),
  ip 130 (pMov (tg 1)),
  ip 131 (pMov (tg 16)),
  ip 132 (pMov (tg 3)),
  ip 133 (pMov (tg 4)),
  im 3 134 (mCall 59 [(tg 129), (tg 130), (tg 131), (tg 132), (tg 133)])]
def oc9_28 : List IS := [ip 135 (pMov (tg 16)),
  ip 136 (pBin .add (tg 135) (cv (.int .i64 1))),
  ip 1 (pMov (tg 136))]
def cc9_22 : SC := sSeq (sReg (seqI oc9_27)) (sReg (seqI oc9_28))
def cc9_23 : SC := sSeq (sReg (seqI oc9_26)) cc9_22
def oc9_29 : List IS := [ip 137 (pMov (tg 19)),
  ip 138 (pMov (tg 20)),
  ip 139 (pBin .geq (tg 137) (tg 138)),
  ip 10 (pMov (tg 139))]
def oc9_30 : List IS := [ip 140 (pMov (tg 0)),
  ip 141 (pMov (tg 16)),
  ip 142 (pBin .add (tg 141) (cv (.int .i64 1))),
  ip 143 (pMov (tg 2)),
  ip 144 (pMov (tg 3)),
  ip 145 (pMov (tg 4)),
  im 3 146 (mCall 59 [(tg 140), (tg 142), (tg 143), (tg 144), (tg 145)])]
def oc9_31 : List IS := [ip 147 (pMov (tg 16)),
  ip 2 (pMov (tg 147))]
def cc9_24 : SC := sSeq (sReg (seqI oc9_30)) (sReg (seqI oc9_31))
def cc9_25 : SC := sSeq (sReg (seqI oc9_29)) cc9_24
def cc9_26 : SC := sCond (tg 125) cc9_23 cc9_25
def cc9_27 : SC := sSeq (sReg (seqI oc9_25)) cc9_26
def cc9_28 : SC := sSeq (sReg (seqI oc9_24)) cc9_27
def cc9_29 : SC := sSeq (sReg (seqI oc9_23)) cc9_28
def cc9_30 : SC := sSeq (sReg (seqI oc9_22)) cc9_29
def cc9_31 : SC := sSeq (sReg (seqI oc9_21)) cc9_30
def cc9_32 : SC := sSeq cc9_21 cc9_31
def cc9_33 : SC := sSeq cc9_17 cc9_32
def cc9_34 : SC := sSeq cc9_13 cc9_33
def cc9_35 : SC := sSeq (sReg (seqI oc9_11)) cc9_34
def cc9_36 : SC := sSeq cc9_9 cc9_35
def cc9_37 : SC := sSeq cc9_6 cc9_36
def cc9_38 : SC := sSeq cc9_3 cc9_37
@[simp] def cc9_38_ap := seq_rule (c := cc9_38) rfl
def cc9_39 : SC := sSeq (sReg (seqI oc9_3)) cc9_38
@[simp] def cc9_39_ap := seq_rule (c := cc9_39) rfl
def cc9_40 : SC := sBlock 1 cc9_39
@[simp] def cc9_40_ap := block_rule (c := cc9_40) rfl
def cc9_41 : SC := sLoop cc9_40
def cc9_42 : SC := sBlock 0 cc9_41
@[simp] def cc9_42_ap := block_rule (c := cc9_42) rfl
def cc9_43 : SC := sSeq (sReg (seqI oc9_2)) cc9_42
@[simp] def cc9_43_ap := seq_rule (c := cc9_43) rfl
def cc9_44 : SC := sSeq (sReg (seqI oc9_1)) cc9_43
@[simp] def cc9_44_ap := seq_rule (c := cc9_44) rfl
def dc9 : DFn := ⟨cc9_44, 148, []⟩
theorem dc9_ok : fnOf Try.prog 59 = some dc9 := by kernel_rfl
def od0_1 : List IS := [ip 2 (pMov (cv (.int .i64 0)))]
@[simp] def od0_1_ap := ops_rule (c := od0_1) rfl
def od0_2 : List IS := [ip 3 (pMov (tg 0)),
  ip 4 (pConvI .u32 (tg 3)),
  im 3 5 (mCall 83 [(tg 4)]),
  ip 2 (pMov (tg 5))]
def cd0_1 : SC := sSeq (sReg (seqI od0_2)) sRet
def cd0_2 : SC := sCond (cv (.bool false)) cd0_1 sSkip
@[simp] def cd0_2_ap := cond_rule (c := cd0_2) rfl
def od0_3 : List IS := [ip 6 (pMov (tg 0)),
  im 3 7 (mCall 84 [(tg 6)]),
  ip 2 (pMov (tg 7))]
@[simp] def od0_3_ap := ops_rule (c := od0_3) rfl
def cd0_3 : SC := sSeq (sReg (seqI od0_3)) sRet
@[simp] def cd0_3_ap := seq_rule (c := cd0_3) rfl
def cd0_4 : SC := sSeq cd0_2 cd0_3
@[simp] def cd0_4_ap := seq_rule (c := cd0_4) rfl
def cd0_5 : SC := sSeq (sReg (seqI od0_1)) cd0_4
@[simp] def cd0_5_ap := seq_rule (c := cd0_5) rfl
def dd0 : DFn := ⟨cd0_5, 8, [.t 2]⟩
theorem dd0_ok : fnOf Try.prog 60 = some dd0 := by kernel_rfl
def oe0_1 : List IS := [ip 10 (pMov (tg 1)),
  ip 11 (pBin .add (tg 10) (cv (.int .i64 1))),
  ip 8 (pMov (tg 11))]
@[simp] def oe0_1_ap := ops_rule (c := oe0_1) rfl
def oe0_2 : List IS := [ip 12 (pMov (tg 8)),
  ip 13 (pMov (tg 2)),
  ip 14 (pBin .lss (tg 12) (tg 13))]
@[simp] def oe0_2_ap := ops_rule (c := oe0_2) rfl
def ce0_1 : SC := sCond (tg 14) sSkip (sExit 0)
@[simp] def ce0_1_ap := cond_rule (c := ce0_1) rfl
def ce0_2 : SC := sSeq (sReg (seqI oe0_2)) ce0_1
@[simp] def ce0_2_ap := seq_rule (c := ce0_2) rfl
def oe0_3 : List IS := [ip 17 (pMov (tg 8)),
  ip 9 (pMov (tg 17))]
def oe0_4 : List DA := [⟨CI.pure (pMov (tg 9)), (some 18), none, 0, []⟩,
  ⟨CI.pure (pMov (tg 1)), (some 19), none, 1, []⟩,
  ⟨CI.pure (pBin .gtr (tg 18) (tg 19)), (some 20), none, 2, []⟩,
  ⟨CI.pure (pMov (tg 20)), (some 21), none, 3, []⟩,
  ⟨CI.pure (pMov (tg 3)), (some 22), (some (21, true)), 4, []⟩,
  ⟨CI.pure (pMov (tg 0)), (some 23), (some (21, true)), 5, []⟩,
  ⟨CI.pure (pMov (tg 9)), (some 24), (some (21, true)), 6, []⟩,
  ⟨CI.pure (pIaddrS 2 (tg 23) (tg 24)), (some 25), (some (21, true)), 7, []⟩,
  ⟨CI.load (tg 25) (mLoadN 2 (tg 25)), (some 26), (some (21, true)), 8, []⟩,
  ⟨CI.pure (pMov (tg 0)), (some 27), (some (21, true)), 9, []⟩,
  ⟨CI.pure (pMov (tg 9)), (some 28), (some (21, true)), 10, []⟩,
  ⟨CI.pure (pBin .sub (tg 28) (cv (.int .i64 1))), (some 29), (some (21, true)), 11, []⟩,
  ⟨CI.pure (pIaddrS 2 (tg 27) (tg 29)), (some 30), (some (21, true)), 12, []⟩,
  ⟨CI.load (tg 30) (mLoadN 2 (tg 30)), (some 31), (some (21, true)), 13, []⟩,
  ⟨CI.mem 3 (mCallv (tg 22) [(tg 26), (tg 31)]), (some 32), (some (21, true)), 14, []⟩,
  ⟨CI.pure (pBin .lss (tg 32) (cv (.int .i64 0))), (some 33), (some (21, true)), 15, []⟩,
  ⟨CI.pure (pPick (tg 21) (tg 33) (cv (.bool false))), (some 34), none, 16, []⟩]
def ce0_3 : SC := sCond (tg 34) sSkip (sExit 2)
def ce0_4 : SC := sSeq (sAny oe0_4) ce0_3
def oe0_5 : List DA := [⟨CI.pure (pMov (tg 0)), (some 37), none, 0, []⟩,
  ⟨CI.pure (pMov (tg 9)), (some 38), none, 1, []⟩,
  ⟨CI.pure (pMov (tg 0)), (some 39), none, 2, []⟩,
  ⟨CI.pure (pMov (tg 9)), (some 40), none, 3, []⟩,
  ⟨CI.pure (pBin .sub (tg 40) (cv (.int .i64 1))), (some 41), none, 4, []⟩,
  ⟨CI.pure (pMov (tg 0)), (some 42), none, 5, []⟩,
  ⟨CI.pure (pMov (tg 9)), (some 43), none, 6, []⟩,
  ⟨CI.pure (pBin .sub (tg 43) (cv (.int .i64 1))), (some 44), none, 7, []⟩,
  ⟨CI.pure (pIaddrS 2 (tg 42) (tg 44)), (some 45), none, 8, []⟩,
  ⟨CI.load (tg 45) (mLoadN 2 (tg 45)), (some 46), none, 9, []⟩,
  ⟨CI.pure (pMov (tg 0)), (some 47), none, 10, []⟩,
  ⟨CI.pure (pMov (tg 9)), (some 48), none, 11, []⟩,
  ⟨CI.pure (pIaddrS 2 (tg 47) (tg 48)), (some 49), none, 12, []⟩,
  ⟨CI.load (tg 49) (mLoadN 2 (tg 49)), (some 50), none, 13, []⟩,
  ⟨CI.pure (pIaddrS 2 (tg 37) (tg 38)), (some 51), none, 14, []⟩,
  ⟨CI.mem 3 (mStore 2 (tg 51) (tg 46)), none, none, 15, []⟩,
  ⟨CI.pure (pIaddrS 2 (tg 39) (tg 41)), (some 52), none, 16, []⟩,
  ⟨CI.mem 3 (mStore 2 (tg 52) (tg 50)), none, none, 17, []⟩]
def ce0_5 : SC := sBlock 3 (sAny oe0_5)
def oe0_6 : List IS := [ip 35 (pMov (tg 9)),
  ip 36 (pBin .sub (tg 35) (cv (.int .i64 1))),
  ip 9 (pMov (tg 36))]
def ce0_6 : SC := sSeq ce0_5 (sReg (seqI oe0_6))
def ce0_7 : SC := sSeq ce0_4 ce0_6
def ce0_8 : SC := sLoop ce0_7
def ce0_9 : SC := sBlock 2 ce0_8
def ce0_10 : SC := sSeq (sReg (seqI oe0_3)) ce0_9
def ce0_11 : SC := sBlock 1 ce0_10
def oe0_7 : List IS := [ip 15 (pMov (tg 8)),
  ip 16 (pBin .add (tg 15) (cv (.int .i64 1))),
  ip 8 (pMov (tg 16))]
def ce0_12 : SC := sSeq ce0_11 (sReg (seqI oe0_7))
def ce0_13 : SC := sSeq ce0_2 ce0_12
@[simp] def ce0_13_ap := seq_rule (c := ce0_13) rfl
def ce0_14 : SC := sLoop ce0_13
def ce0_15 : SC := sBlock 0 ce0_14
@[simp] def ce0_15_ap := block_rule (c := ce0_15) rfl
def ce0_16 : SC := sSeq (sReg (seqI oe0_1)) ce0_15
@[simp] def ce0_16_ap := seq_rule (c := ce0_16) rfl
def de0 : DFn := ⟨ce0_16, 53, []⟩
theorem de0_ok : fnOf Try.prog 75 = some de0 := by kernel_rfl
def oe1_1 : List IS := [ip 2 (pMov (cv (.int .i64 0)))]
@[simp] def oe1_1_ap := ops_rule (c := oe1_1) rfl
def oe1_2 : List IS := [ip 3 (pMov (tg 0)),
  ip 4 (pBin .geq (tg 3) (cv (.int .u64 4294967296)))]
@[simp] def oe1_2_ap := ops_rule (c := oe1_2) rfl
def oe1_3 : List IS := [ip 5 (pMov (tg 0)),
  ip 6 (pShift .shr (tg 5) (cv (.int .u64 32))),
  ip 0 (pMov (tg 6))]
def oe1_4 : List IS := [ip 2 (pMov (cv (.int .i64 32)))]
def ce1_1 : SC := sSeq (sReg (seqI oe1_3)) (sReg (seqI oe1_4))
def ce1_2 : SC := sCond (tg 4) ce1_1 sSkip
@[simp] def ce1_2_ap := cond_rule (c := ce1_2) rfl
def ce1_3 : SC := sSeq (sReg (seqI oe1_2)) ce1_2
@[simp] def ce1_3_ap := seq_rule (c := ce1_3) rfl
def oe1_5 : List IS := [ip 7 (pMov (tg 0)),
  ip 8 (pBin .geq (tg 7) (cv (.int .u64 65536)))]
@[simp] def oe1_5_ap := ops_rule (c := oe1_5) rfl
def oe1_6 : List IS := [ip 9 (pMov (tg 0)),
  ip 10 (pShift .shr (tg 9) (cv (.int .u64 16))),
  ip 0 (pMov (tg 10))]
def oe1_7 : List IS := [ip 11 (pMov (tg 2)),
  ip 12 (pBin .add (tg 11) (cv (.int .i64 16))),
  ip 2 (pMov (tg 12))]
def ce1_4 : SC := sSeq (sReg (seqI oe1_6)) (sReg (seqI oe1_7))
def ce1_5 : SC := sCond (tg 8) ce1_4 sSkip
@[simp] def ce1_5_ap := cond_rule (c := ce1_5) rfl
def ce1_6 : SC := sSeq (sReg (seqI oe1_5)) ce1_5
@[simp] def ce1_6_ap := seq_rule (c := ce1_6) rfl
def oe1_8 : List IS := [ip 13 (pMov (tg 0)),
  ip 14 (pBin .geq (tg 13) (cv (.int .u64 256)))]
@[simp] def oe1_8_ap := ops_rule (c := oe1_8) rfl
def oe1_9 : List IS := [ip 15 (pMov (tg 0)),
  ip 16 (pShift .shr (tg 15) (cv (.int .u64 8))),
  ip 0 (pMov (tg 16))]
def oe1_10 : List IS := [ip 17 (pMov (tg 2)),
  ip 18 (pBin .add (tg 17) (cv (.int .i64 8))),
  ip 2 (pMov (tg 18))]
def ce1_7 : SC := sSeq (sReg (seqI oe1_9)) (sReg (seqI oe1_10))
def ce1_8 : SC := sCond (tg 14) ce1_7 sSkip
@[simp] def ce1_8_ap := cond_rule (c := ce1_8) rfl
def ce1_9 : SC := sSeq (sReg (seqI oe1_8)) ce1_8
@[simp] def ce1_9_ap := seq_rule (c := ce1_9) rfl
def oe1_11 : List IS := [ip 19 (pMov (tg 2)),
  ip 20 (pMov (tg 0)),
  ip 21 (pConvI .u8 (tg 20)),
  ip 22 (pSidx (cv (.string ⟨#[0, 1, 2, 2, 3, 3, 3, 3, 4, 4, 4, 4, 4, 4, 4, 4, 5, 5, 5, 5, 5, 5, 5, 5, 5, 5, 5, 5, 5, 5, 5, 5, 6, 6, 6, 6, 6, 6, 6, 6, 6, 6, 6, 6, 6, 6, 6, 6, 6, 6, 6, 6, 6, 6, 6, 6, 6, 6, 6, 6, 6, 6, 6, 6, 7, 7, 7, 7, 7, 7, 7, 7, 7, 7, 7, 7, 7, 7, 7, 7, 7, 7, 7, 7, 7, 7, 7, 7, 7, 7, 7, 7, 7, 7, 7, 7, 7, 7, 7, 7, 7, 7, 7, 7, 7, 7, 7, 7, 7, 7, 7, 7, 7, 7, 7, 7, 7, 7, 7, 7, 7, 7, 7, 7, 7, 7, 7, 7, 8, 8, 8, 8, 8, 8, 8, 8, 8, 8, 8, 8, 8, 8, 8, 8, 8, 8, 8, 8, 8, 8, 8, 8, 8, 8, 8, 8, 8, 8, 8, 8, 8, 8, 8, 8, 8, 8, 8, 8, 8, 8, 8, 8, 8, 8, 8, 8, 8, 8, 8, 8, 8, 8, 8, 8, 8, 8, 8, 8, 8, 8, 8, 8, 8, 8, 8, 8, 8, 8, 8, 8, 8, 8, 8, 8, 8, 8, 8, 8, 8, 8, 8, 8, 8, 8, 8, 8, 8, 8, 8, 8, 8, 8, 8, 8, 8, 8, 8, 8, 8, 8, 8, 8, 8, 8, 8, 8, 8, 8, 8, 8, 8, 8, 8, 8, 8, 8, 8, 8, 8, 8, 8, 8, 8, 8, 8, 8]⟩)) (tg 21)),
  ip 23 (pConvI .i64 (tg 22)),
  ip 24 (pBin .add (tg 19) (tg 23)),
  ip 2 (pMov (tg 24))]
@[simp] def oe1_11_ap := ops_rule (c := oe1_11) rfl
def ce1_10 : SC := sSeq (sReg (seqI oe1_11)) sRet
@[simp] def ce1_10_ap := seq_rule (c := ce1_10) rfl
def ce1_11 : SC := sSeq ce1_9 ce1_10
@[simp] def ce1_11_ap := seq_rule (c := ce1_11) rfl
def ce1_12 : SC := sSeq ce1_6 ce1_11
@[simp] def ce1_12_ap := seq_rule (c := ce1_12) rfl
def ce1_13 : SC := sSeq ce1_3 ce1_12
@[simp] def ce1_13_ap := seq_rule (c := ce1_13) rfl
def ce1_14 : SC := sSeq (sReg (seqI oe1_1)) ce1_13
@[simp] def ce1_14_ap := seq_rule (c := ce1_14) rfl
def de1 : DFn := ⟨ce1_14, 25, [.t 2]⟩
theorem de1_ok : fnOf Try.prog 84 = some de1 := by kernel_rfl
end
end Go.Sx
