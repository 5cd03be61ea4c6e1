/- Compiled code. -/
import Derived.Test.YtbbpaaofmcoobaaGreatGa
import Derived.Test.YtbbpaaofmcoobaaGreatProg
import Derived.KernelRfl
set_option linter.unusedVariables false
set_option linter.unusedSimpArgs false
set_option linter.defProp false
/- Compiled code: printed by a program. -/
namespace Go.Sx
open Go.Dx Go.Proofs
noncomputable section
def oa0_1 : List IS := [ip 4 (pMov (cv (.bool false)))]
@[simp] def oa0_1_ap := ops_rule (c := oa0_1) rfl
def oa0_2 : List IS := [im 1 13 (mBslice 4 0 (rep 0 [(.int .i64 0), (.int .u64 0), (.int .i64 0), (.int .i64 0)]) []),
  ip 14 (pMov (tg 0)),
  im 3 15 (mAppend 4 32 (tg 13) (tg 14)),
  ip 5 (pMov (tg 15))]
@[simp] def oa0_2_ap := ops_rule (c := oa0_2) rfl
def oa0_3 : List IS := [ip 17 (pMov (tg 5)),
  im 3 18 (mCall 8 [(tg 17)]),
  ip 16 (pMov (tg 18)),
  ip 19 (pExtract (tg 16) 0),
  ip 20 (pExtract (tg 16) 1),
  ip 6 (pMov (tg 19)),
  ip 7 (pMov (tg 20))]
@[simp] def oa0_3_ap := ops_rule (c := oa0_3) rfl
def oa0_4 : List IS := [ip 22 (pMov (tg 0)),
  im 3 23 (mCall 9 [(tg 22)]),
  ip 21 (pMov (tg 23)),
  ip 24 (pExtract (tg 21) 0),
  ip 25 (pExtract (tg 21) 1),
  ip 8 (pMov (tg 24)),
  ip 9 (pMov (tg 25))]
@[simp] def oa0_4_ap := ops_rule (c := oa0_4) rfl
def oa0_5 : List IS := [ip 26 (pMov (tg 7)),
  ip 27 (pMov (tg 9)),
  ip 28 (pBin .neq (tg 26) (tg 27)),
  ip 29 (pMov (tg 28)),
  gd 29 false (some 30) (ip 30 (pMov (tg 6))),
  gd 29 false (some 31) (ip 31 (pLen (tg 30))),
  gd 29 false (some 32) (ip 32 (pMov (tg 8))),
  gd 29 false (some 33) (ip 33 (pLen (tg 32))),
  gd 29 false (some 34) (ip 34 (pBin .neq (tg 31) (tg 33))),
  ip 35 (pPick (tg 29) (cv (.bool true)) (tg 34))]
@[simp] def oa0_5_ap := ops_rule (c := oa0_5) rfl
def oa0_6 : List IS := [ip 4 (pMov (cv (.bool false)))]
@[simp] def oa0_6_ap := ops_rule (c := oa0_6) rfl
def ca0_1 : SC := sSeq (sReg (seqI oa0_6)) sRet
@[simp] def ca0_1_ap := seq_rule (c := ca0_1) rfl
def ca0_2 : SC := sCond (tg 35) ca0_1 sSkip
@[simp] def ca0_2_ap := cond_rule (c := ca0_2) rfl
def ca0_3 : SC := sSeq (sReg (seqI oa0_5)) ca0_2
@[simp] def ca0_3_ap := seq_rule (c := ca0_3) rfl
def oa0_7 : List IS := [ip 10 (pMov (cv (.int .i64 0)))]
@[simp] def oa0_7_ap := ops_rule (c := oa0_7) rfl
def oa0_8 : List IS := [ip 36 (pMov (tg 10)),
  ip 37 (pMov (tg 6)),
  ip 38 (pLen (tg 37)),
  ip 39 (pBin .lss (tg 36) (tg 38))]
@[simp] def oa0_8_ap := ops_rule (c := oa0_8) rfl
def ca0_4 : SC := sCond (tg 39) sSkip (sExit 0)
@[simp] def ca0_4_ap := cond_rule (c := ca0_4) rfl
def ca0_5 : SC := sSeq (sReg (seqI oa0_8)) ca0_4
@[simp] def ca0_5_ap := seq_rule (c := ca0_5) rfl
def oa0_9 : List DA := [⟨CI.pure (pMov (tg 6)), (some 42), none, 0, []⟩,
  ⟨CI.pure (pMov (tg 10)), (some 43), none, 1, []⟩,
  ⟨CI.pure (pIaddrS 4 (tg 42) (tg 43)), (some 44), none, 2, []⟩,
  ⟨CI.load (tg 44) (mLoadN 4 (tg 44)), (some 45), none, 3, []⟩,
  ⟨CI.pure (pMov (tg 8)), (some 46), none, 4, []⟩,
  ⟨CI.pure (pMov (tg 10)), (some 47), none, 5, []⟩,
  ⟨CI.pure (pIaddrS 4 (tg 46) (tg 47)), (some 48), none, 6, []⟩,
  ⟨CI.load (tg 48) (mLoadN 4 (tg 48)), (some 49), none, 7, []⟩,
  ⟨CI.pure (pEqF true [1, 1, 1, 1] (tg 45) (tg 49)), (some 50), none, 8, []⟩]
@[simp] def oa0_9_ap := das_rule (c := oa0_9) rfl
def oa0_10 : List IS := [ip 4 (pMov (cv (.bool false)))]
@[simp] def oa0_10_ap := ops_rule (c := oa0_10) rfl
def ca0_6 : SC := sSeq (sReg (seqI oa0_10)) sRet
@[simp] def ca0_6_ap := seq_rule (c := ca0_6) rfl
def ca0_7 : SC := sCond (tg 50) ca0_6 sSkip
@[simp] def ca0_7_ap := cond_rule (c := ca0_7) rfl
def ca0_8 : SC := sSeq (sAny oa0_9) ca0_7
@[simp] def ca0_8_ap := seq_rule (c := ca0_8) rfl
def ca0_9 : SC := sBlock 1 ca0_8
@[simp] def ca0_9_ap := block_rule (c := ca0_9) rfl
def oa0_11 : List IS := [ip 40 (pMov (tg 10)),
  ip 41 (pBin .add (tg 40) (cv (.int .i64 1))),
  ip 10 (pMov (tg 41))]
@[simp] def oa0_11_ap := ops_rule (c := oa0_11) rfl
def ca0_10 : SC := sSeq ca0_9 (sReg (seqI oa0_11))
@[simp] def ca0_10_ap := seq_rule (c := ca0_10) rfl
def ca0_11 : SC := sSeq ca0_5 ca0_10
@[simp] def ca0_11_ap := seq_rule (c := ca0_11) rfl
def ca0_12 : SC := sLoop ca0_11
def ca0_13 : SC := sBlock 0 ca0_12
@[simp] def ca0_13_ap := block_rule (c := ca0_13) rfl
def ca0_14 : SC := sSeq (sReg (seqI oa0_7)) ca0_13
@[simp] def ca0_14_ap := seq_rule (c := ca0_14) rfl
def oa0_12 : List IS := [ip 11 (pMov (cv (.int .i64 0)))]
@[simp] def oa0_12_ap := ops_rule (c := oa0_12) rfl
def oa0_13 : List IS := [ip 51 (pMov (tg 11)),
  ip 52 (pMov (tg 5)),
  ip 53 (pLen (tg 52)),
  ip 54 (pBin .lss (tg 51) (tg 53))]
@[simp] def oa0_13_ap := ops_rule (c := oa0_13) rfl
def ca0_15 : SC := sCond (tg 54) sSkip (sExit 2)
@[simp] def ca0_15_ap := cond_rule (c := ca0_15) rfl
def ca0_16 : SC := sSeq (sReg (seqI oa0_13)) ca0_15
@[simp] def ca0_16_ap := seq_rule (c := ca0_16) rfl
def oa0_14 : List DA := [⟨CI.pure (pMov (tg 5)), (some 57), none, 0, []⟩,
  ⟨CI.pure (pMov (tg 11)), (some 58), none, 1, []⟩,
  ⟨CI.pure (pIaddrS 4 (tg 57) (tg 58)), (some 59), none, 2, []⟩,
  ⟨CI.load (tg 59) (mLoadN 4 (tg 59)), (some 60), none, 3, []⟩,
  ⟨CI.pure (pMov (tg 0)), (some 61), none, 4, []⟩,
  ⟨CI.pure (pMov (tg 11)), (some 62), none, 5, []⟩,
  ⟨CI.pure (pIaddrS 4 (tg 61) (tg 62)), (some 63), none, 6, []⟩,
  ⟨CI.load (tg 63) (mLoadN 4 (tg 63)), (some 64), none, 7, []⟩,
  ⟨CI.pure (pEqF true [1, 1, 1, 1] (tg 60) (tg 64)), (some 65), none, 8, []⟩]
@[simp] def oa0_14_ap := das_rule (c := oa0_14) rfl
def oa0_15 : List IS := [ip 4 (pMov (cv (.bool false)))]
@[simp] def oa0_15_ap := ops_rule (c := oa0_15) rfl
def ca0_17 : SC := sSeq (sReg (seqI oa0_15)) sRet
@[simp] def ca0_17_ap := seq_rule (c := ca0_17) rfl
def ca0_18 : SC := sCond (tg 65) ca0_17 sSkip
@[simp] def ca0_18_ap := cond_rule (c := ca0_18) rfl
def ca0_19 : SC := sSeq (sAny oa0_14) ca0_18
@[simp] def ca0_19_ap := seq_rule (c := ca0_19) rfl
def ca0_20 : SC := sBlock 3 ca0_19
@[simp] def ca0_20_ap := block_rule (c := ca0_20) rfl
def oa0_16 : List IS := [ip 55 (pMov (tg 11)),
  ip 56 (pBin .add (tg 55) (cv (.int .i64 1))),
  ip 11 (pMov (tg 56))]
@[simp] def oa0_16_ap := ops_rule (c := oa0_16) rfl
def ca0_21 : SC := sSeq ca0_20 (sReg (seqI oa0_16))
@[simp] def ca0_21_ap := seq_rule (c := ca0_21) rfl
def ca0_22 : SC := sSeq ca0_16 ca0_21
@[simp] def ca0_22_ap := seq_rule (c := ca0_22) rfl
def ca0_23 : SC := sLoop ca0_22
def ca0_24 : SC := sBlock 2 ca0_23
@[simp] def ca0_24_ap := block_rule (c := ca0_24) rfl
def ca0_25 : SC := sSeq (sReg (seqI oa0_12)) ca0_24
@[simp] def ca0_25_ap := seq_rule (c := ca0_25) rfl
def oa0_17 : List IS := [im 1 66 (mBslice 1 0 (rep 0 [(.int .u64 0)]) []),
  ip 67 (pMov (tg 1)),
  im 3 68 (mAppend 1 8 (tg 66) (tg 67)),
  ip 12 (pMov (tg 68))]
@[simp] def oa0_17_ap := ops_rule (c := oa0_17) rfl
def oa0_18 : List IS := [ip 69 (pMov (tg 12)),
  ip 70 (pLen (tg 69)),
  ip 71 (pBin .lss (tg 70) (cv (.int .i64 24)))]
@[simp] def oa0_18_ap := ops_rule (c := oa0_18) rfl
def ca0_26 : SC := sCond (tg 71) sSkip (sExit 4)
@[simp] def ca0_26_ap := cond_rule (c := ca0_26) rfl
def ca0_27 : SC := sSeq (sReg (seqI oa0_18)) ca0_26
@[simp] def ca0_27_ap := seq_rule (c := ca0_27) rfl
def oa0_19 : List IS := [ip 72 (pMov (tg 12)),
  ip 73 (pMov (tg 12)),
  ip 74 (pLen (tg 73)),
  ip 75 (pBin .mul (cv (.int .i64 3)) (tg 74)),
  ip 76 (pConvI .u64 (tg 75)),
  im 1 77 (mBslice 1 1 (rep 1 [(.int .u64 0)]) [(0, 1, (tg 76))]),
  im 3 78 (mAppend 1 8 (tg 72) (tg 77)),
  ip 12 (pMov (tg 78))]
@[simp] def oa0_19_ap := ops_rule (c := oa0_19) rfl
def ca0_28 : SC := sBlock 5 (sReg (seqI oa0_19))
@[simp] def ca0_28_ap := block_rule (c := ca0_28) rfl
def ca0_29 : SC := sSeq ca0_27 ca0_28
@[simp] def ca0_29_ap := seq_rule (c := ca0_29) rfl
def ca0_30 : SC := sLoop ca0_29
def ca0_31 : SC := sBlock 4 ca0_30
@[simp] def ca0_31_ap := block_rule (c := ca0_31) rfl
def oa0_20 : List IS := [ip 79 (pMov (tg 7)),
  ip 80 (pBin .neq (tg 79) (cv (.int .i64 0))),
  ip 81 (pMov (tg 80)),
  gd 81 false (some 82) (ip 82 (pMov (tg 6))),
  gd 81 false (some 83) (ip 83 (pMov (tg 12))),
  gd 81 false (some 84) (im 3 84 (mCall 10 [(tg 82), (tg 83)])),
  gd 81 false (some 85) (ip 85 (pMov (tg 0))),
  gd 81 false (some 86) (ip 86 (pMov (tg 12))),
  gd 81 false (some 87) (im 3 87 (mCall 10 [(tg 85), (tg 86)])),
  gd 81 false (some 88) (ip 88 (pBin .eql (tg 84) (tg 87))),
  gd 81 false (some 89) (ip 89 (pMov (tg 88))),
  gd 89 true (some 90) (im 3 90 (mCall 11 [])),
  gd 81 false (some 91) (ip 91 (pPick (tg 89) (tg 90) (cv (.bool false)))),
  ip 92 (pPick (tg 81) (cv (.bool true)) (tg 91)),
  ip 4 (pMov (tg 92))]
@[simp] def oa0_20_ap := ops_rule (c := oa0_20) rfl
def ca0_32 : SC := sSeq (sReg (seqI oa0_20)) sRet
@[simp] def ca0_32_ap := seq_rule (c := ca0_32) rfl
def ca0_33 : SC := sSeq ca0_31 ca0_32
@[simp] def ca0_33_ap := seq_rule (c := ca0_33) rfl
def ca0_34 : SC := sSeq (sReg (seqI oa0_17)) ca0_33
@[simp] def ca0_34_ap := seq_rule (c := ca0_34) rfl
def ca0_35 : SC := sSeq ca0_25 ca0_34
@[simp] def ca0_35_ap := seq_rule (c := ca0_35) rfl
def ca0_36 : SC := sSeq ca0_14 ca0_35
@[simp] def ca0_36_ap := seq_rule (c := ca0_36) rfl
def ca0_37 : SC := sSeq ca0_3 ca0_36
@[simp] def ca0_37_ap := seq_rule (c := ca0_37) rfl
def ca0_38 : SC := sSeq (sReg (seqI oa0_4)) ca0_37
@[simp] def ca0_38_ap := seq_rule (c := ca0_38) rfl
def ca0_39 : SC := sSeq (sReg (seqI oa0_3)) ca0_38
@[simp] def ca0_39_ap := seq_rule (c := ca0_39) rfl
def ca0_40 : SC := sSeq (sReg (seqI oa0_2)) ca0_39
@[simp] def ca0_40_ap := seq_rule (c := ca0_40) rfl
def ca0_41 : SC := sSeq (sReg (seqI oa0_1)) ca0_40
@[simp] def ca0_41_ap := seq_rule (c := ca0_41) rfl
def da0 : DFn := ⟨ca0_41, 93, [.t 4]⟩
theorem da0_ok : fnOf Tryz.prog 3 = some da0 := by kernel_rfl
def oa1_1 : List IS := [ip 2 (pMov (cv (.slice none 0 0))),
  ip 3 (pMov (cv (.int .i64 0)))]
@[simp] def oa1_1_ap := ops_rule (c := oa1_1) rfl
def oa1_2 : List IS := [ip 4 (pMov (tg 0)),
  im 3 5 (mCall 26 [(tg 4)]),
  ip 6 (pUn .not (tg 5))]
@[simp] def oa1_2_ap := ops_rule (c := oa1_2) rfl
def oa1_3 : List IS := [ip 2 (pMov (cv (.slice none 0 0))),
  ip 3 (pMov (cv (.int .i64 1)))]
@[simp] def oa1_3_ap := ops_rule (c := oa1_3) rfl
def ca1_1 : SC := sSeq (sReg (seqI oa1_3)) sRet
@[simp] def ca1_1_ap := seq_rule (c := ca1_1) rfl
def ca1_2 : SC := sCond (tg 6) ca1_1 sSkip
@[simp] def ca1_2_ap := cond_rule (c := ca1_2) rfl
def ca1_3 : SC := sSeq (sReg (seqI oa1_2)) ca1_2
@[simp] def ca1_3_ap := seq_rule (c := ca1_3) rfl
def oa1_4 : List IS := [ip 7 (pMov (tg 0)),
  im 3 8 (mCall 27 [(tg 7)]),
  ip 2 (pMov (tg 8)),
  ip 3 (pMov (cv (.int .i64 0)))]
@[simp] def oa1_4_ap := ops_rule (c := oa1_4) rfl
def ca1_4 : SC := sSeq (sReg (seqI oa1_4)) sRet
@[simp] def ca1_4_ap := seq_rule (c := ca1_4) rfl
def ca1_5 : SC := sSeq ca1_3 ca1_4
@[simp] def ca1_5_ap := seq_rule (c := ca1_5) rfl
def ca1_6 : SC := sSeq (sReg (seqI oa1_1)) ca1_5
@[simp] def ca1_6_ap := seq_rule (c := ca1_6) rfl
def da1 : DFn := ⟨ca1_6, 9, [.t 2, .t 3]⟩
theorem da1_ok : fnOf Tryz.prog 8 = some da1 := by kernel_rfl
def oa2_1 : List IS := [ip 2 (pMov (cv (.slice none 0 0))),
  ip 3 (pMov (cv (.int .i64 0)))]
@[simp] def oa2_1_ap := ops_rule (c := oa2_1) rfl
def oa2_2 : List IS := [ip 4 (pMov (tg 0)),
  im 3 5 (mCall 28 [(tg 4)]),
  ip 6 (pUn .not (tg 5))]
@[simp] def oa2_2_ap := ops_rule (c := oa2_2) rfl
def oa2_3 : List IS := [ip 2 (pMov (cv (.slice none 0 0))),
  ip 3 (pMov (cv (.int .i64 1)))]
@[simp] def oa2_3_ap := ops_rule (c := oa2_3) rfl
def ca2_1 : SC := sSeq (sReg (seqI oa2_3)) sRet
@[simp] def ca2_1_ap := seq_rule (c := ca2_1) rfl
def ca2_2 : SC := sCond (tg 6) ca2_1 sSkip
@[simp] def ca2_2_ap := cond_rule (c := ca2_2) rfl
def ca2_3 : SC := sSeq (sReg (seqI oa2_2)) ca2_2
@[simp] def ca2_3_ap := seq_rule (c := ca2_3) rfl
def oa2_4 : List IS := [ip 7 (pMov (tg 0)),
  im 3 8 (mCall 29 [(tg 7)]),
  ip 2 (pMov (tg 8)),
  ip 3 (pMov (cv (.int .i64 0)))]
@[simp] def oa2_4_ap := ops_rule (c := oa2_4) rfl
def ca2_4 : SC := sSeq (sReg (seqI oa2_4)) sRet
@[simp] def ca2_4_ap := seq_rule (c := ca2_4) rfl
def ca2_5 : SC := sSeq ca2_3 ca2_4
@[simp] def ca2_5_ap := seq_rule (c := ca2_5) rfl
def ca2_6 : SC := sSeq (sReg (seqI oa2_1)) ca2_5
@[simp] def ca2_6_ap := seq_rule (c := ca2_6) rfl
def da2 : DFn := ⟨ca2_6, 9, [.t 2, .t 3]⟩
theorem da2_ok : fnOf Tryz.prog 9 = some da2 := by kernel_rfl
def oa3_1 : List IS := [ip 4 (pMov (cv (.int .u64 0)))]
@[simp] def oa3_1_ap := ops_rule (c := oa3_1) rfl
def oa3_2 : List IS := [ip 5 (pMov (tg 0)),
  ip 6 (pMov (tg 0)),
  ip 7 (pLen (tg 6)),
  ip 8 (pBin .sub (tg 7) (cv (.int .i64 1))),
  ip 9 (pMov (tg 1)),
  im 3 10 (mCall 30 [(tg 5), (tg 8), (tg 9)]),
  ip 4 (pMov (tg 10))]
@[simp] def oa3_2_ap := ops_rule (c := oa3_2) rfl
def ca3_1 : SC := sSeq (sReg (seqI oa3_2)) sRet
@[simp] def ca3_1_ap := seq_rule (c := ca3_1) rfl
def ca3_2 : SC := sSeq (sReg (seqI oa3_1)) ca3_1
@[simp] def ca3_2_ap := seq_rule (c := ca3_2) rfl
def da3 : DFn := ⟨ca3_2, 11, [.t 4]⟩
theorem da3_ok : fnOf Tryz.prog 10 = some da3 := by kernel_rfl
def oa4_1 : List IS := [ip 2 (pMov (cv (.bool false)))]
@[simp] def oa4_1_ap := ops_rule (c := oa4_1) rfl
def oa4_2 : List IS := [ip 3 (pMov (tg 0)),
  ip 4 (pBuild [(.int .i64 0), (.int .i64 0), (.int .i64 0), (.int .i64 0), (.slice none 0 0), (.slice none 0 0), (.slice none 0 0), (.int .i64 0), (.int .i64 0), (.int .i64 0), (.int .i64 0)] [(0, 1, (cv (.int .i64 8))), (5, 1, (tg 3))]),
  im 1 5 (mBslice 11 1 (rep 1 [(.int .i64 0), (.int .i64 0), (.int .i64 0), (.int .i64 0), (.slice none 0 0), (.slice none 0 0), (.slice none 0 0), (.int .i64 0), (.int .i64 0), (.int .i64 0), (.int .i64 0)]) [(0, 11, (tg 4))]),
  ip 6 (pBuild [(.int .i64 0), (.slice none 0 0)] [(0, 1, (cv (.int .i64 24))), (1, 1, (tg 5))]),
  im 1 7 (mBslice 2 1 (rep 1 [(.int .i64 0), (.slice none 0 0)]) [(0, 2, (tg 6))]),
  ip 8 (pBuild [(.int .i64 0), (.slice none 0 0)] [(1, 1, (tg 7))]),
  im 3 9 (mCall 33 [(tg 8)]),
  ip 2 (pMov (tg 9))]
@[simp] def oa4_2_ap := ops_rule (c := oa4_2) rfl
def ca4_1 : SC := sSeq (sReg (seqI oa4_2)) sRet
@[simp] def ca4_1_ap := seq_rule (c := ca4_1) rfl
def ca4_2 : SC := sSeq (sReg (seqI oa4_1)) ca4_1
@[simp] def ca4_2_ap := seq_rule (c := ca4_2) rfl
def da4 : DFn := ⟨ca4_2, 10, [.t 2]⟩
theorem da4_ok : fnOf Tryz.prog 26 = some da4 := by kernel_rfl
def oa5_1 : List IS := [ip 2 (pMov (cv (.slice none 0 0)))]
@[simp] def oa5_1_ap := ops_rule (c := oa5_1) rfl
def oa5_2 : List IS := [ip 3 (pMov (tg 0)),
  ip 4 (pLen (tg 3)),
  ip 5 (pBin .eql (tg 4) (cv (.int .i64 0)))]
@[simp] def oa5_2_ap := ops_rule (c := oa5_2) rfl
def oa5_3 : List IS := [ip 2 (pMov (cv (.slice none 0 0)))]
@[simp] def oa5_3_ap := ops_rule (c := oa5_3) rfl
def ca5_1 : SC := sSeq (sReg (seqI oa5_3)) sRet
@[simp] def ca5_1_ap := seq_rule (c := ca5_1) rfl
def ca5_2 : SC := sCond (tg 5) ca5_1 sSkip
@[simp] def ca5_2_ap := cond_rule (c := ca5_2) rfl
def ca5_3 : SC := sSeq (sReg (seqI oa5_2)) ca5_2
@[simp] def ca5_3_ap := seq_rule (c := ca5_3) rfl
def oa5_4 : List IS := [ip 6 (pMov (tg 0)),
  ip 7 (pMov (tg 0)),
  ip 8 (pLen (tg 7)),
  ip 9 (pBin .sub (tg 8) (cv (.int .i64 1))),
  im 3 10 (mCall 50 [(cv (.slice none 0 0)), (tg 6), (tg 9)]),
  ip 2 (pMov (tg 10))]
@[simp] def oa5_4_ap := ops_rule (c := oa5_4) rfl
def ca5_4 : SC := sSeq (sReg (seqI oa5_4)) sRet
@[simp] def ca5_4_ap := seq_rule (c := ca5_4) rfl
def ca5_5 : SC := sSeq ca5_3 ca5_4
@[simp] def ca5_5_ap := seq_rule (c := ca5_5) rfl
def ca5_6 : SC := sSeq (sReg (seqI oa5_1)) ca5_5
@[simp] def ca5_6_ap := seq_rule (c := ca5_6) rfl
def da5 : DFn := ⟨ca5_6, 11, [.t 2]⟩
theorem da5_ok : fnOf Tryz.prog 27 = some da5 := by kernel_rfl
def oa6_1 : List IS := [ip 2 (pMov (cv (.bool false)))]
@[simp] def oa6_1_ap := ops_rule (c := oa6_1) rfl
def oa6_2 : List IS := [ip 3 (pMov (tg 0)),
  im 3 4 (mCall 51 [(tg 3), (cv (.int .i64 24))]),
  ip 2 (pMov (tg 4))]
@[simp] def oa6_2_ap := ops_rule (c := oa6_2) rfl
def ca6_1 : SC := sSeq (sReg (seqI oa6_2)) sRet
@[simp] def ca6_1_ap := seq_rule (c := ca6_1) rfl
def ca6_2 : SC := sSeq (sReg (seqI oa6_1)) ca6_1
@[simp] def ca6_2_ap := seq_rule (c := ca6_2) rfl
def da6 : DFn := ⟨ca6_2, 5, [.t 2]⟩
theorem da6_ok : fnOf Tryz.prog 28 = some da6 := by kernel_rfl
def oa7_1 : List IS := [ip 2 (pMov (cv (.slice none 0 0)))]
@[simp] def oa7_1_ap := ops_rule (c := oa7_1) rfl
def oa7_2 : List IS := [ip 3 (pMov (tg 0)),
  ip 4 (pLen (tg 3)),
  ip 5 (pBin .eql (tg 4) (cv (.int .i64 0)))]
@[simp] def oa7_2_ap := ops_rule (c := oa7_2) rfl
def oa7_3 : List IS := [ip 2 (pMov (cv (.slice none 0 0)))]
@[simp] def oa7_3_ap := ops_rule (c := oa7_3) rfl
def ca7_1 : SC := sSeq (sReg (seqI oa7_3)) sRet
@[simp] def ca7_1_ap := seq_rule (c := ca7_1) rfl
def ca7_2 : SC := sCond (tg 5) ca7_1 sSkip
@[simp] def ca7_2_ap := cond_rule (c := ca7_2) rfl
def ca7_3 : SC := sSeq (sReg (seqI oa7_2)) ca7_2
@[simp] def ca7_3_ap := seq_rule (c := ca7_3) rfl
def oa7_4 : List IS := [ip 6 (pMov (tg 0)),
  ip 7 (pMov (tg 0)),
  ip 8 (pLen (tg 7)),
  ip 9 (pBin .sub (tg 8) (cv (.int .i64 1))),
  im 3 10 (mCall 52 [(cv (.slice none 0 0)), (tg 6), (tg 9)]),
  ip 2 (pMov (tg 10))]
@[simp] def oa7_4_ap := ops_rule (c := oa7_4) rfl
def ca7_4 : SC := sSeq (sReg (seqI oa7_4)) sRet
@[simp] def ca7_4_ap := seq_rule (c := ca7_4) rfl
def ca7_5 : SC := sSeq ca7_3 ca7_4
@[simp] def ca7_5_ap := seq_rule (c := ca7_5) rfl
def ca7_6 : SC := sSeq (sReg (seqI oa7_1)) ca7_5
@[simp] def ca7_6_ap := seq_rule (c := ca7_6) rfl
def da7 : DFn := ⟨ca7_6, 11, [.t 2]⟩
theorem da7_ok : fnOf Tryz.prog 29 = some da7 := by kernel_rfl
def oa8_1 : List IS := [ip 6 (pMov (cv (.int .u64 0)))]
@[simp] def oa8_1_ap := ops_rule (c := oa8_1) rfl
def oa8_2 : List IS := [ip 12 (pMov (tg 0)),
  ip 13 (pMov (tg 1)),
  ip 14 (pIaddrS 4 (tg 12) (tg 13)),
  il 15 (tg 14) (mLoadN 4 (tg 14)),
  im 1 7 (mAlloc [(.int .i64 0), (.int .u64 0), (.int .i64 0), (.int .i64 0)]),
  im0 3 (mStore 4 (tg 7) (tg 15))]
@[simp] def oa8_2_ap := ops_rule (c := oa8_2) rfl
def oa8_3 : List IS := [ip 16 (pFaddr 0 (tg 7)),
  il 17 (tg 16) (mLoad1 (tg 16)),
  ip 18 (pBin .eql (tg 17) (cv (.int .i64 1)))]
@[simp] def oa8_3_ap := ops_rule (c := oa8_3) rfl
def oa8_4 : List IS := [ip 19 (pFaddr 1 (tg 7)),
  il 20 (tg 19) (mLoad1 (tg 19)),
  ip 6 (pMov (tg 20))]
@[simp] def oa8_4_ap := ops_rule (c := oa8_4) rfl
def ca8_1 : SC := sSeq (sReg (seqI oa8_4)) sRet
@[simp] def ca8_1_ap := seq_rule (c := ca8_1) rfl
def ca8_2 : SC := sCond (tg 18) ca8_1 sSkip
@[simp] def ca8_2_ap := cond_rule (c := ca8_2) rfl
def ca8_3 : SC := sSeq (sReg (seqI oa8_3)) ca8_2
@[simp] def ca8_3_ap := seq_rule (c := ca8_3) rfl
def oa8_5 : List IS := [ip 21 (pFaddr 0 (tg 7)),
  il 22 (tg 21) (mLoad1 (tg 21)),
  ip 23 (pBin .eql (tg 22) (cv (.int .i64 2)))]
@[simp] def oa8_5_ap := ops_rule (c := oa8_5) rfl
def oa8_6 : List IS := [ip 24 (pMov (tg 2)),
  ip 25 (pFaddr 1 (tg 7)),
  il 26 (tg 25) (mLoad1 (tg 25)),
  ip 27 (pIaddrS 1 (tg 24) (tg 26)),
  il 28 (tg 27) (mLoad1 (tg 27)),
  ip 6 (pMov (tg 28))]
@[simp] def oa8_6_ap := ops_rule (c := oa8_6) rfl
def ca8_4 : SC := sSeq (sReg (seqI oa8_6)) sRet
@[simp] def ca8_4_ap := seq_rule (c := ca8_4) rfl
def ca8_5 : SC := sCond (tg 23) ca8_4 sSkip
@[simp] def ca8_5_ap := cond_rule (c := ca8_5) rfl
def ca8_6 : SC := sSeq (sReg (seqI oa8_5)) ca8_5
@[simp] def ca8_6_ap := seq_rule (c := ca8_6) rfl
def oa8_7 : List IS := [ip 29 (pMov (tg 0)),
  ip 30 (pFaddr 2 (tg 7)),
  il 31 (tg 30) (mLoad1 (tg 30)),
  ip 32 (pMov (tg 2)),
  im 3 33 (mCall 30 [(tg 29), (tg 31), (tg 32)]),
  ip 8 (pMov (tg 33))]
@[simp] def oa8_7_ap := ops_rule (c := oa8_7) rfl
def oa8_8 : List IS := [ip 34 (pFaddr 0 (tg 7)),
  il 35 (tg 34) (mLoad1 (tg 34))]
@[simp] def oa8_8_ap := ops_rule (c := oa8_8) rfl
def oa8_9 : List IS := [ip 37 (pBin .eql (tg 35) (cv (.int .i64 3))),
  ip 36 (pMov (tg 37))]
@[simp] def oa8_9_ap := ops_rule (c := oa8_9) rfl
def oa8_10 : List IS := [ip 38 (pMov (tg 8)),
  ip 39 (pBin .sub (cv (.int .u64 0)) (tg 38)),
  ip 6 (pMov (tg 39))]
@[simp] def oa8_10_ap := ops_rule (c := oa8_10) rfl
def ca8_7 : SC := sSeq (sReg (seqI oa8_10)) sRet
@[simp] def ca8_7_ap := seq_rule (c := ca8_7) rfl
def oa8_11 : List IS := [ip 41 (pBin .eql (tg 35) (cv (.int .i64 4))),
  ip 40 (pMov (tg 41))]
@[simp] def oa8_11_ap := ops_rule (c := oa8_11) rfl
def oa8_12 : List IS := [ip 42 (pMov (tg 8)),
  ip 43 (pBin .sub (cv (.int .u64 18446744073709551615)) (tg 42)),
  ip 6 (pMov (tg 43))]
@[simp] def oa8_12_ap := ops_rule (c := oa8_12) rfl
def ca8_8 : SC := sSeq (sReg (seqI oa8_12)) sRet
@[simp] def ca8_8_ap := seq_rule (c := ca8_8) rfl
def oa8_13 : List IS := [ip 45 (pBin .eql (tg 35) (cv (.int .i64 5))),
  ip 44 (pMov (tg 45))]
@[simp] def oa8_13_ap := ops_rule (c := oa8_13) rfl
def oa8_14 : List IS := [ip 46 (pMov (tg 8)),
  ip 47 (pBin .eql (tg 46) (cv (.int .u64 0))),
  im 3 48 (mCall 53 [(tg 47)]),
  ip 6 (pMov (tg 48))]
@[simp] def oa8_14_ap := ops_rule (c := oa8_14) rfl
def ca8_9 : SC := sSeq (sReg (seqI oa8_14)) sRet
@[simp] def ca8_9_ap := seq_rule (c := ca8_9) rfl
def ca8_10 : SC := sCond (tg 44) ca8_9 sSkip
@[simp] def ca8_10_ap := cond_rule (c := ca8_10) rfl
def ca8_11 : SC := sSeq (sReg (seqI oa8_13)) ca8_10
@[simp] def ca8_11_ap := seq_rule (c := ca8_11) rfl
def ca8_12 : SC := sCond (tg 40) ca8_8 ca8_11
@[simp] def ca8_12_ap := cond_rule (c := ca8_12) rfl
def ca8_13 : SC := sSeq (sReg (seqI oa8_11)) ca8_12
@[simp] def ca8_13_ap := seq_rule (c := ca8_13) rfl
def ca8_14 : SC := sCond (tg 36) ca8_7 ca8_13
@[simp] def ca8_14_ap := cond_rule (c := ca8_14) rfl
def ca8_15 : SC := sSeq (sReg (seqI oa8_9)) ca8_14
@[simp] def ca8_15_ap := seq_rule (c := ca8_15) rfl
def ca8_16 : SC := sBlock 0 ca8_15
@[simp] def ca8_16_ap := block_rule (c := ca8_16) rfl
def ca8_17 : SC := sSeq (sReg (seqI oa8_8)) ca8_16
@[simp] def ca8_17_ap := seq_rule (c := ca8_17) rfl
def oa8_15 : List IS := [ip 49 (pMov (tg 0)),
  ip 50 (pFaddr 3 (tg 7)),
  il 51 (tg 50) (mLoad1 (tg 50)),
  ip 52 (pMov (tg 2)),
  im 3 53 (mCall 30 [(tg 49), (tg 51), (tg 52)]),
  ip 9 (pMov (tg 53))]
@[simp] def oa8_15_ap := ops_rule (c := oa8_15) rfl
def oa8_16 : List IS := [ip 54 (pFaddr 0 (tg 7)),
  il 55 (tg 54) (mLoad1 (tg 54))]
@[simp] def oa8_16_ap := ops_rule (c := oa8_16) rfl
def oa8_17 : List IS := [ip 57 (pBin .eql (tg 55) (cv (.int .i64 6))),
  ip 56 (pMov (tg 57))]
@[simp] def oa8_17_ap := ops_rule (c := oa8_17) rfl
def oa8_18 : List IS := [ip 58 (pMov (tg 8)),
  ip 59 (pMov (tg 9)),
  ip 60 (pBin .mul (tg 58) (tg 59)),
  ip 6 (pMov (tg 60))]
@[simp] def oa8_18_ap := ops_rule (c := oa8_18) rfl
def ca8_18 : SC := sSeq (sReg (seqI oa8_18)) sRet
@[simp] def ca8_18_ap := seq_rule (c := ca8_18) rfl
def oa8_19 : List IS := [ip 62 (pBin .eql (tg 55) (cv (.int .i64 7))),
  ip 61 (pMov (tg 62))]
@[simp] def oa8_19_ap := ops_rule (c := oa8_19) rfl
def oa8_20 : List IS := [ip 63 (pMov (tg 8)),
  ip 64 (pMov (tg 9)),
  ip 65 (pBin .add (tg 63) (tg 64)),
  ip 6 (pMov (tg 65))]
@[simp] def oa8_20_ap := ops_rule (c := oa8_20) rfl
def ca8_19 : SC := sSeq (sReg (seqI oa8_20)) sRet
@[simp] def ca8_19_ap := seq_rule (c := ca8_19) rfl
def oa8_21 : List IS := [ip 67 (pBin .eql (tg 55) (cv (.int .i64 8))),
  ip 66 (pMov (tg 67))]
@[simp] def oa8_21_ap := ops_rule (c := oa8_21) rfl
def oa8_22 : List IS := [ip 68 (pMov (tg 8)),
  ip 69 (pMov (tg 9)),
  ip 70 (pBin .sub (tg 68) (tg 69)),
  ip 6 (pMov (tg 70))]
@[simp] def oa8_22_ap := ops_rule (c := oa8_22) rfl
def ca8_20 : SC := sSeq (sReg (seqI oa8_22)) sRet
@[simp] def ca8_20_ap := seq_rule (c := ca8_20) rfl
def oa8_23 : List IS := [ip 72 (pBin .eql (tg 55) (cv (.int .i64 9))),
  ip 71 (pMov (tg 72))]
@[simp] def oa8_23_ap := ops_rule (c := oa8_23) rfl
def oa8_24 : List IS := [ip 10 (pMov (cv (.int .u64 0)))]
@[simp] def oa8_24_ap := ops_rule (c := oa8_24) rfl
def oa8_25 : List IS := [ip 73 (pMov (tg 10)),
  ip 74 (pMov (tg 9)),
  ip 75 (pBin .rem (tg 74) (cv (.int .u64 64))),
  ip 76 (pBin .lss (tg 73) (tg 75))]
@[simp] def oa8_25_ap := ops_rule (c := oa8_25) rfl
def ca8_21 : SC := sCond (tg 76) sSkip (sExit 2)
@[simp] def ca8_21_ap := cond_rule (c := ca8_21) rfl
def ca8_22 : SC := sSeq (sReg (seqI oa8_25)) ca8_21
@[simp] def ca8_22_ap := seq_rule (c := ca8_22) rfl
def oa8_26 : List IS := [ip 79 (pMov (tg 8)),
  ip 80 (pMov (tg 8)),
  ip 81 (pBin .add (tg 79) (tg 80)),
  ip 8 (pMov (tg 81))]
@[simp] def oa8_26_ap := ops_rule (c := oa8_26) rfl
def ca8_23 : SC := sBlock 3 (sReg (seqI oa8_26))
@[simp] def ca8_23_ap := block_rule (c := ca8_23) rfl
def oa8_27 : List IS := [ip 77 (pMov (tg 10)),
  ip 78 (pBin .add (tg 77) (cv (.int .u64 1))),
  ip 10 (pMov (tg 78))]
@[simp] def oa8_27_ap := ops_rule (c := oa8_27) rfl
def ca8_24 : SC := sSeq ca8_23 (sReg (seqI oa8_27))
@[simp] def ca8_24_ap := seq_rule (c := ca8_24) rfl
def ca8_25 : SC := sSeq ca8_22 ca8_24
@[simp] def ca8_25_ap := seq_rule (c := ca8_25) rfl
def ca8_26 : SC := sLoop ca8_25
def ca8_27 : SC := sBlock 2 ca8_26
@[simp] def ca8_27_ap := block_rule (c := ca8_27) rfl
def ca8_28 : SC := sSeq (sReg (seqI oa8_24)) ca8_27
@[simp] def ca8_28_ap := seq_rule (c := ca8_28) rfl
def oa8_28 : List IS := [ip 82 (pMov (tg 8)),
  ip 6 (pMov (tg 82))]
@[simp] def oa8_28_ap := ops_rule (c := oa8_28) rfl
def ca8_29 : SC := sSeq (sReg (seqI oa8_28)) sRet
@[simp] def ca8_29_ap := seq_rule (c := ca8_29) rfl
def ca8_30 : SC := sSeq ca8_28 ca8_29
@[simp] def ca8_30_ap := seq_rule (c := ca8_30) rfl
def oa8_29 : List IS := [ip 84 (pBin .eql (tg 55) (cv (.int .i64 10))),
  ip 83 (pMov (tg 84))]
@[simp] def oa8_29_ap := ops_rule (c := oa8_29) rfl
def oa8_30 : List IS := [ip 11 (pMov (cv (.int .u64 0)))]
@[simp] def oa8_30_ap := ops_rule (c := oa8_30) rfl
def oa8_31 : List IS := [ip 85 (pMov (tg 11)),
  ip 86 (pMov (tg 9)),
  ip 87 (pBin .rem (tg 86) (cv (.int .u64 64))),
  ip 88 (pBin .lss (tg 85) (tg 87))]
@[simp] def oa8_31_ap := ops_rule (c := oa8_31) rfl
def ca8_31 : SC := sCond (tg 88) sSkip (sExit 4)
@[simp] def ca8_31_ap := cond_rule (c := ca8_31) rfl
def ca8_32 : SC := sSeq (sReg (seqI oa8_31)) ca8_31
@[simp] def ca8_32_ap := seq_rule (c := ca8_32) rfl
def oa8_32 : List IS := [ip 91 (pMov (tg 8)),
  ip 92 (pBin .quo (tg 91) (cv (.int .u64 2))),
  ip 8 (pMov (tg 92))]
@[simp] def oa8_32_ap := ops_rule (c := oa8_32) rfl
def ca8_33 : SC := sBlock 5 (sReg (seqI oa8_32))
@[simp] def ca8_33_ap := block_rule (c := ca8_33) rfl
def oa8_33 : List IS := [ip 89 (pMov (tg 11)),
  ip 90 (pBin .add (tg 89) (cv (.int .u64 1))),
  ip 11 (pMov (tg 90))]
@[simp] def oa8_33_ap := ops_rule (c := oa8_33) rfl
def ca8_34 : SC := sSeq ca8_33 (sReg (seqI oa8_33))
@[simp] def ca8_34_ap := seq_rule (c := ca8_34) rfl
def ca8_35 : SC := sSeq ca8_32 ca8_34
@[simp] def ca8_35_ap := seq_rule (c := ca8_35) rfl
def ca8_36 : SC := sLoop ca8_35
def ca8_37 : SC := sBlock 4 ca8_36
@[simp] def ca8_37_ap := block_rule (c := ca8_37) rfl
def ca8_38 : SC := sSeq (sReg (seqI oa8_30)) ca8_37
@[simp] def ca8_38_ap := seq_rule (c := ca8_38) rfl
def oa8_34 : List IS := [ip 93 (pMov (tg 8)),
  ip 6 (pMov (tg 93))]
@[simp] def oa8_34_ap := ops_rule (c := oa8_34) rfl
def ca8_39 : SC := sSeq (sReg (seqI oa8_34)) sRet
@[simp] def ca8_39_ap := seq_rule (c := ca8_39) rfl
def ca8_40 : SC := sSeq ca8_38 ca8_39
@[simp] def ca8_40_ap := seq_rule (c := ca8_40) rfl
def oa8_35 : List IS := [ip 95 (pBin .eql (tg 55) (cv (.int .i64 11))),
  ip 94 (pMov (tg 95))]
@[simp] def oa8_35_ap := ops_rule (c := oa8_35) rfl
def oa8_36 : List IS := [ip 96 (pMov (tg 8)),
  ip 97 (pMov (tg 9)),
  ip 98 (pBin .and (tg 96) (tg 97)),
  ip 6 (pMov (tg 98))]
@[simp] def oa8_36_ap := ops_rule (c := oa8_36) rfl
def ca8_41 : SC := sSeq (sReg (seqI oa8_36)) sRet
@[simp] def ca8_41_ap := seq_rule (c := ca8_41) rfl
def oa8_37 : List IS := [ip 100 (pBin .eql (tg 55) (cv (.int .i64 12))),
  ip 99 (pMov (tg 100))]
@[simp] def oa8_37_ap := ops_rule (c := oa8_37) rfl
def oa8_38 : List IS := [ip 101 (pMov (tg 8)),
  ip 102 (pMov (tg 9)),
  ip 103 (pBin .xor (tg 101) (tg 102)),
  ip 6 (pMov (tg 103))]
@[simp] def oa8_38_ap := ops_rule (c := oa8_38) rfl
def ca8_42 : SC := sSeq (sReg (seqI oa8_38)) sRet
@[simp] def ca8_42_ap := seq_rule (c := ca8_42) rfl
def oa8_39 : List IS := [ip 105 (pBin .eql (tg 55) (cv (.int .i64 13))),
  ip 104 (pMov (tg 105))]
@[simp] def oa8_39_ap := ops_rule (c := oa8_39) rfl
def oa8_40 : List IS := [ip 106 (pMov (tg 8)),
  ip 107 (pMov (tg 9)),
  ip 108 (pBin .or (tg 106) (tg 107)),
  ip 6 (pMov (tg 108))]
@[simp] def oa8_40_ap := ops_rule (c := oa8_40) rfl
def ca8_43 : SC := sSeq (sReg (seqI oa8_40)) sRet
@[simp] def ca8_43_ap := seq_rule (c := ca8_43) rfl
def oa8_41 : List IS := [ip 110 (pBin .eql (tg 55) (cv (.int .i64 14))),
  ip 109 (pMov (tg 110))]
@[simp] def oa8_41_ap := ops_rule (c := oa8_41) rfl
def oa8_42 : List IS := [ip 111 (pMov (tg 8)),
  ip 112 (pMov (tg 9)),
  ip 113 (pBin .eql (tg 111) (tg 112)),
  im 3 114 (mCall 53 [(tg 113)]),
  ip 6 (pMov (tg 114))]
@[simp] def oa8_42_ap := ops_rule (c := oa8_42) rfl
def ca8_44 : SC := sSeq (sReg (seqI oa8_42)) sRet
@[simp] def ca8_44_ap := seq_rule (c := ca8_44) rfl
def oa8_43 : List IS := [ip 116 (pBin .eql (tg 55) (cv (.int .i64 15))),
  ip 115 (pMov (tg 116))]
@[simp] def oa8_43_ap := ops_rule (c := oa8_43) rfl
def oa8_44 : List IS := [ip 117 (pMov (tg 8)),
  ip 118 (pMov (tg 9)),
  ip 119 (pBin .neq (tg 117) (tg 118)),
  im 3 120 (mCall 53 [(tg 119)]),
  ip 6 (pMov (tg 120))]
@[simp] def oa8_44_ap := ops_rule (c := oa8_44) rfl
def ca8_45 : SC := sSeq (sReg (seqI oa8_44)) sRet
@[simp] def ca8_45_ap := seq_rule (c := ca8_45) rfl
def oa8_45 : List IS := [ip 122 (pBin .eql (tg 55) (cv (.int .i64 16))),
  ip 121 (pMov (tg 122))]
@[simp] def oa8_45_ap := ops_rule (c := oa8_45) rfl
def oa8_46 : List IS := [ip 123 (pMov (tg 8)),
  ip 124 (pMov (tg 9)),
  ip 125 (pBin .lss (tg 123) (tg 124)),
  im 3 126 (mCall 53 [(tg 125)]),
  ip 6 (pMov (tg 126))]
@[simp] def oa8_46_ap := ops_rule (c := oa8_46) rfl
def ca8_46 : SC := sSeq (sReg (seqI oa8_46)) sRet
@[simp] def ca8_46_ap := seq_rule (c := ca8_46) rfl
def oa8_47 : List IS := [ip 128 (pBin .eql (tg 55) (cv (.int .i64 17))),
  ip 127 (pMov (tg 128))]
@[simp] def oa8_47_ap := ops_rule (c := oa8_47) rfl
def oa8_48 : List IS := [ip 129 (pMov (tg 8)),
  ip 130 (pMov (tg 9)),
  ip 131 (pBin .leq (tg 129) (tg 130)),
  im 3 132 (mCall 53 [(tg 131)]),
  ip 6 (pMov (tg 132))]
@[simp] def oa8_48_ap := ops_rule (c := oa8_48) rfl
def ca8_47 : SC := sSeq (sReg (seqI oa8_48)) sRet
@[simp] def ca8_47_ap := seq_rule (c := ca8_47) rfl
def oa8_49 : List IS := [ip 134 (pBin .eql (tg 55) (cv (.int .i64 18))),
  ip 133 (pMov (tg 134))]
@[simp] def oa8_49_ap := ops_rule (c := oa8_49) rfl
def oa8_50 : List IS := [ip 135 (pMov (tg 9)),
  ip 136 (pMov (tg 8)),
  ip 137 (pBin .lss (tg 135) (tg 136)),
  im 3 138 (mCall 53 [(tg 137)]),
  ip 6 (pMov (tg 138))]
@[simp] def oa8_50_ap := ops_rule (c := oa8_50) rfl
def ca8_48 : SC := sSeq (sReg (seqI oa8_50)) sRet
@[simp] def ca8_48_ap := seq_rule (c := ca8_48) rfl
def ca8_49 : SC := sCond (tg 133) ca8_48 sSkip
@[simp] def ca8_49_ap := cond_rule (c := ca8_49) rfl
def ca8_50 : SC := sSeq (sReg (seqI oa8_49)) ca8_49
@[simp] def ca8_50_ap := seq_rule (c := ca8_50) rfl
def ca8_51 : SC := sCond (tg 127) ca8_47 ca8_50
@[simp] def ca8_51_ap := cond_rule (c := ca8_51) rfl
def ca8_52 : SC := sSeq (sReg (seqI oa8_47)) ca8_51
@[simp] def ca8_52_ap := seq_rule (c := ca8_52) rfl
def ca8_53 : SC := sCond (tg 121) ca8_46 ca8_52
@[simp] def ca8_53_ap := cond_rule (c := ca8_53) rfl
def ca8_54 : SC := sSeq (sReg (seqI oa8_45)) ca8_53
@[simp] def ca8_54_ap := seq_rule (c := ca8_54) rfl
def ca8_55 : SC := sCond (tg 115) ca8_45 ca8_54
@[simp] def ca8_55_ap := cond_rule (c := ca8_55) rfl
def ca8_56 : SC := sSeq (sReg (seqI oa8_43)) ca8_55
@[simp] def ca8_56_ap := seq_rule (c := ca8_56) rfl
def ca8_57 : SC := sCond (tg 109) ca8_44 ca8_56
@[simp] def ca8_57_ap := cond_rule (c := ca8_57) rfl
def ca8_58 : SC := sSeq (sReg (seqI oa8_41)) ca8_57
@[simp] def ca8_58_ap := seq_rule (c := ca8_58) rfl
def ca8_59 : SC := sCond (tg 104) ca8_43 ca8_58
@[simp] def ca8_59_ap := cond_rule (c := ca8_59) rfl
def ca8_60 : SC := sSeq (sReg (seqI oa8_39)) ca8_59
@[simp] def ca8_60_ap := seq_rule (c := ca8_60) rfl
def ca8_61 : SC := sCond (tg 99) ca8_42 ca8_60
@[simp] def ca8_61_ap := cond_rule (c := ca8_61) rfl
def ca8_62 : SC := sSeq (sReg (seqI oa8_37)) ca8_61
@[simp] def ca8_62_ap := seq_rule (c := ca8_62) rfl
def ca8_63 : SC := sCond (tg 94) ca8_41 ca8_62
@[simp] def ca8_63_ap := cond_rule (c := ca8_63) rfl
def ca8_64 : SC := sSeq (sReg (seqI oa8_35)) ca8_63
@[simp] def ca8_64_ap := seq_rule (c := ca8_64) rfl
def ca8_65 : SC := sCond (tg 83) ca8_40 ca8_64
@[simp] def ca8_65_ap := cond_rule (c := ca8_65) rfl
def ca8_66 : SC := sSeq (sReg (seqI oa8_29)) ca8_65
@[simp] def ca8_66_ap := seq_rule (c := ca8_66) rfl
def ca8_67 : SC := sCond (tg 71) ca8_30 ca8_66
@[simp] def ca8_67_ap := cond_rule (c := ca8_67) rfl
def ca8_68 : SC := sSeq (sReg (seqI oa8_23)) ca8_67
@[simp] def ca8_68_ap := seq_rule (c := ca8_68) rfl
def ca8_69 : SC := sCond (tg 66) ca8_20 ca8_68
@[simp] def ca8_69_ap := cond_rule (c := ca8_69) rfl
def ca8_70 : SC := sSeq (sReg (seqI oa8_21)) ca8_69
@[simp] def ca8_70_ap := seq_rule (c := ca8_70) rfl
def ca8_71 : SC := sCond (tg 61) ca8_19 ca8_70
@[simp] def ca8_71_ap := cond_rule (c := ca8_71) rfl
def ca8_72 : SC := sSeq (sReg (seqI oa8_19)) ca8_71
@[simp] def ca8_72_ap := seq_rule (c := ca8_72) rfl
def ca8_73 : SC := sCond (tg 56) ca8_18 ca8_72
@[simp] def ca8_73_ap := cond_rule (c := ca8_73) rfl
def ca8_74 : SC := sSeq (sReg (seqI oa8_17)) ca8_73
@[simp] def ca8_74_ap := seq_rule (c := ca8_74) rfl
def ca8_75 : SC := sBlock 1 ca8_74
@[simp] def ca8_75_ap := block_rule (c := ca8_75) rfl
def ca8_76 : SC := sSeq (sReg (seqI oa8_16)) ca8_75
@[simp] def ca8_76_ap := seq_rule (c := ca8_76) rfl
def oa8_51 : List IS := [ip 139 (pMov (tg 9)),
  ip 140 (pMov (tg 8)),
  ip 141 (pBin .leq (tg 139) (tg 140)),
  im 3 142 (mCall 53 [(tg 141)]),
  ip 6 (pMov (tg 142))]
@[simp] def oa8_51_ap := ops_rule (c := oa8_51) rfl
def ca8_77 : SC := sSeq (sReg (seqI oa8_51)) sRet
@[simp] def ca8_77_ap := seq_rule (c := ca8_77) rfl
def ca8_78 : SC := sSeq ca8_76 ca8_77
@[simp] def ca8_78_ap := seq_rule (c := ca8_78) rfl
def ca8_79 : SC := sSeq (sReg (seqI oa8_15)) ca8_78
@[simp] def ca8_79_ap := seq_rule (c := ca8_79) rfl
def ca8_80 : SC := sSeq ca8_17 ca8_79
@[simp] def ca8_80_ap := seq_rule (c := ca8_80) rfl
def ca8_81 : SC := sSeq (sReg (seqI oa8_7)) ca8_80
@[simp] def ca8_81_ap := seq_rule (c := ca8_81) rfl
def ca8_82 : SC := sSeq ca8_6 ca8_81
@[simp] def ca8_82_ap := seq_rule (c := ca8_82) rfl
def ca8_83 : SC := sSeq ca8_3 ca8_82
@[simp] def ca8_83_ap := seq_rule (c := ca8_83) rfl
def ca8_84 : SC := sSeq (sReg (seqI oa8_2)) ca8_83
@[simp] def ca8_84_ap := seq_rule (c := ca8_84) rfl
def ca8_85 : SC := sSeq (sReg (seqI oa8_1)) ca8_84
@[simp] def ca8_85_ap := seq_rule (c := ca8_85) rfl
def da8 : DFn := ⟨ca8_85, 143, [.t 6]⟩
theorem da8_ok : fnOf Tryz.prog 30 = some da8 := by kernel_rfl
def oa9_1 : List IS := [im 1 1 (mBox (tg 0)),
  ip 2 (pMov (cv (.bool false)))]
@[simp] def oa9_1_ap := ops_rule (c := oa9_1) rfl
def oa9_2 : List IS := [ip 7 (pFaddr 0 (tg 1)),
  il 8 (tg 7) (mLoad1 (tg 7)),
  ip 9 (pBin .lss (tg 8) (cv (.int .i64 0))),
  ip 10 (pMov (tg 9)),
  gd 10 false (some 11) (ip 11 (pFaddr 0 (tg 1))),
  gd 10 false (some 12) (il 12 (tg 11) (mLoad1 (tg 11))),
  gd 10 false (some 13) (ip 13 (pBin .gtr (tg 12) (cv (.int .i64 4096)))),
  ip 14 (pPick (tg 10) (cv (.bool true)) (tg 13)),
  ip 15 (pMov (tg 14)),
  gd 15 false (some 16) (ip 16 (pFaddr 1 (tg 1))),
  gd 15 false (some 17) (il 17 (tg 16) (mLoad1 (tg 16))),
  gd 15 false (some 18) (ip 18 (pLen (tg 17))),
  gd 15 false (some 19) (ip 19 (pBin .gtr (tg 18) (cv (.int .i64 64)))),
  ip 20 (pPick (tg 15) (cv (.bool true)) (tg 19))]
@[simp] def oa9_2_ap := ops_rule (c := oa9_2) rfl
def oa9_3 : List IS := [ip 2 (pMov (cv (.bool false)))]
@[simp] def oa9_3_ap := ops_rule (c := oa9_3) rfl
def ca9_1 : SC := sSeq (sReg (seqI oa9_3)) sRet
@[simp] def ca9_1_ap := seq_rule (c := ca9_1) rfl
def ca9_2 : SC := sCond (tg 20) ca9_1 sSkip
@[simp] def ca9_2_ap := cond_rule (c := ca9_2) rfl
def ca9_3 : SC := sSeq (sReg (seqI oa9_2)) ca9_2
@[simp] def ca9_3_ap := seq_rule (c := ca9_3) rfl
def oa9_4 : List IS := [ip 21 (pFaddr 1 (tg 1)),
  il 22 (tg 21) (mLoad1 (tg 21)),
  ip 23 (pLen (tg 22)),
  ip 24 (pMov (cv (.int .i64 0)))]
@[simp] def oa9_4_ap := ops_rule (c := oa9_4) rfl
def oa9_5 : List IS := [ip 25 (pBin .lss (tg 24) (tg 23))]
@[simp] def oa9_5_ap := ops_rule (c := oa9_5) rfl
def ca9_4 : SC := sCond (tg 25) sSkip (sExit 0)
@[simp] def ca9_4_ap := cond_rule (c := ca9_4) rfl
def oa9_6 : List IS := [ip 26 (pIaddrS 2 (tg 22) (tg 24)),
  il 27 (tg 26) (mLoadN 2 (tg 26)),
  im 1 4 (mAlloc [(.int .i64 0), (.slice none 0 0)]),
  im0 3 (mStore 2 (tg 4) (tg 27))]
@[simp] def oa9_6_ap := ops_rule (c := oa9_6) rfl
def oa9_7 : List IS := [ip 28 (pFaddr 0 (tg 4)),
  il 29 (tg 28) (mLoad1 (tg 28)),
  ip 30 (pBin .lss (tg 29) (cv (.int .i64 0))),
  ip 31 (pMov (tg 30)),
  gd 31 false (some 32) (ip 32 (pFaddr 0 (tg 4))),
  gd 31 false (some 33) (il 33 (tg 32) (mLoad1 (tg 32))),
  gd 31 false (some 34) (ip 34 (pBin .gtr (tg 33) (cv (.int .i64 24)))),
  ip 35 (pPick (tg 31) (cv (.bool true)) (tg 34)),
  ip 36 (pMov (tg 35)),
  gd 36 false (some 37) (ip 37 (pFaddr 1 (tg 4))),
  gd 36 false (some 38) (il 38 (tg 37) (mLoad1 (tg 37))),
  gd 36 false (some 39) (ip 39 (pLen (tg 38))),
  gd 36 false (some 40) (ip 40 (pBin .gtr (tg 39) (cv (.int .i64 65536)))),
  ip 41 (pPick (tg 36) (cv (.bool true)) (tg 40))]
@[simp] def oa9_7_ap := ops_rule (c := oa9_7) rfl
def oa9_8 : List IS := [ip 2 (pMov (cv (.bool false)))]
@[simp] def oa9_8_ap := ops_rule (c := oa9_8) rfl
def ca9_5 : SC := sSeq (sReg (seqI oa9_8)) sRet
@[simp] def ca9_5_ap := seq_rule (c := ca9_5) rfl
def ca9_6 : SC := sCond (tg 41) ca9_5 sSkip
@[simp] def ca9_6_ap := cond_rule (c := ca9_6) rfl
def ca9_7 : SC := sSeq (sReg (seqI oa9_7)) ca9_6
@[simp] def ca9_7_ap := seq_rule (c := ca9_7) rfl
def oa9_9 : List IS := [ip 42 (pFaddr 1 (tg 4)),
  il 43 (tg 42) (mLoad1 (tg 42)),
  ip 44 (pLen (tg 43)),
  ip 45 (pMov (cv (.int .i64 0)))]
@[simp] def oa9_9_ap := ops_rule (c := oa9_9) rfl
def oa9_10 : List IS := [ip 46 (pBin .lss (tg 45) (tg 44))]
@[simp] def oa9_10_ap := ops_rule (c := oa9_10) rfl
def ca9_8 : SC := sCond (tg 46) sSkip (sExit 2)
@[simp] def ca9_8_ap := cond_rule (c := ca9_8) rfl
def oa9_11 : List IS := [ip 47 (pIaddrS 11 (tg 43) (tg 45)),
  il 48 (tg 47) (mLoadN 11 (tg 47)),
  im 1 6 (mAlloc [(.int .i64 0), (.int .i64 0), (.int .i64 0), (.int .i64 0), (.slice none 0 0), (.slice none 0 0), (.slice none 0 0), (.int .i64 0), (.int .i64 0), (.int .i64 0), (.int .i64 0)]),
  im0 3 (mStore 11 (tg 6) (tg 48))]
@[simp] def oa9_11_ap := ops_rule (c := oa9_11) rfl
def oa9_12 : List IS := [il 49 (tg 6) (mLoadN 11 (tg 6)),
  il 50 (tg 1) (mLoadN 2 (tg 1)),
  il 51 (tg 4) (mLoadN 2 (tg 4)),
  im 3 52 (mCall 61 [(tg 49), (tg 50), (tg 51)]),
  ip 53 (pUn .not (tg 52))]
@[simp] def oa9_12_ap := ops_rule (c := oa9_12) rfl
def oa9_13 : List IS := [ip 2 (pMov (cv (.bool false)))]
@[simp] def oa9_13_ap := ops_rule (c := oa9_13) rfl
def ca9_9 : SC := sSeq (sReg (seqI oa9_13)) sRet
@[simp] def ca9_9_ap := seq_rule (c := ca9_9) rfl
def ca9_10 : SC := sCond (tg 53) ca9_9 sSkip
@[simp] def ca9_10_ap := cond_rule (c := ca9_10) rfl
def ca9_11 : SC := sSeq (sReg (seqI oa9_12)) ca9_10
@[simp] def ca9_11_ap := seq_rule (c := ca9_11) rfl
def ca9_12 : SC := sSeq (sReg (seqI oa9_11)) ca9_11
@[simp] def ca9_12_ap := seq_rule (c := ca9_12) rfl
def ca9_13 : SC := sBlock 3 ca9_12
@[simp] def ca9_13_ap := block_rule (c := ca9_13) rfl
def oa9_14 : List IS := [ip 54 (pBin .add (tg 45) (cv (.int .i64 1))),
  ip 45 (pMov (tg 54))]
@[simp] def oa9_14_ap := ops_rule (c := oa9_14) rfl
def ca9_14 : SC := sSeq ca9_13 (sReg (seqI oa9_14))
@[simp] def ca9_14_ap := seq_rule (c := ca9_14) rfl
def ca9_15 : SC := sSeq ca9_8 ca9_14
@[simp] def ca9_15_ap := seq_rule (c := ca9_15) rfl
def ca9_16 : SC := sSeq (sReg (seqI oa9_10)) ca9_15
@[simp] def ca9_16_ap := seq_rule (c := ca9_16) rfl
def ca9_17 : SC := sLoop ca9_16
def ca9_18 : SC := sBlock 2 ca9_17
@[simp] def ca9_18_ap := block_rule (c := ca9_18) rfl
def ca9_19 : SC := sSeq (sReg (seqI oa9_9)) ca9_18
@[simp] def ca9_19_ap := seq_rule (c := ca9_19) rfl
def ca9_20 : SC := sSeq ca9_7 ca9_19
@[simp] def ca9_20_ap := seq_rule (c := ca9_20) rfl
def ca9_21 : SC := sSeq (sReg (seqI oa9_6)) ca9_20
@[simp] def ca9_21_ap := seq_rule (c := ca9_21) rfl
def ca9_22 : SC := sBlock 1 ca9_21
@[simp] def ca9_22_ap := block_rule (c := ca9_22) rfl
def oa9_15 : List IS := [ip 55 (pBin .add (tg 24) (cv (.int .i64 1))),
  ip 24 (pMov (tg 55))]
@[simp] def oa9_15_ap := ops_rule (c := oa9_15) rfl
def ca9_23 : SC := sSeq ca9_22 (sReg (seqI oa9_15))
@[simp] def ca9_23_ap := seq_rule (c := ca9_23) rfl
def ca9_24 : SC := sSeq ca9_4 ca9_23
@[simp] def ca9_24_ap := seq_rule (c := ca9_24) rfl
def ca9_25 : SC := sSeq (sReg (seqI oa9_5)) ca9_24
@[simp] def ca9_25_ap := seq_rule (c := ca9_25) rfl
def ca9_26 : SC := sLoop ca9_25
def ca9_27 : SC := sBlock 0 ca9_26
@[simp] def ca9_27_ap := block_rule (c := ca9_27) rfl
def ca9_28 : SC := sSeq (sReg (seqI oa9_4)) ca9_27
@[simp] def ca9_28_ap := seq_rule (c := ca9_28) rfl
def oa9_16 : List IS := [ip 2 (pMov (cv (.bool true)))]
@[simp] def oa9_16_ap := ops_rule (c := oa9_16) rfl
def ca9_29 : SC := sSeq (sReg (seqI oa9_16)) sRet
@[simp] def ca9_29_ap := seq_rule (c := ca9_29) rfl
def ca9_30 : SC := sSeq ca9_28 ca9_29
@[simp] def ca9_30_ap := seq_rule (c := ca9_30) rfl
def ca9_31 : SC := sSeq ca9_3 ca9_30
@[simp] def ca9_31_ap := seq_rule (c := ca9_31) rfl
def ca9_32 : SC := sSeq (sReg (seqI oa9_1)) ca9_31
@[simp] def ca9_32_ap := seq_rule (c := ca9_32) rfl
def da9 : DFn := ⟨ca9_32, 56, [.t 2]⟩
theorem da9_ok : fnOf Tryz.prog 33 = some da9 := by kernel_rfl
def ob7 : List IS := [ip 6 (pMov (cv (.slice none 0 0)))]
@[simp] def ob7_ap := ops_rule (c := ob7) rfl
def ob0_2 : List IS := [ip 13 (pMov (tg 1)),
  ip 14 (pMov (tg 2)),
  ip 15 (pIaddrS 4 (tg 13) (tg 14)),
  il 16 (tg 15) (mLoadN 4 (tg 15)),
  im 1 7 (mAlloc [(.int .i64 0), (.int .u64 0), (.int .i64 0), (.int .i64 0)]),
  im0 3 (mStore 4 (tg 7) (tg 16))]
@[simp] def ob0_2_ap := ops_rule (c := ob0_2) rfl
def ob0_3 : List IS := [ip 17 (pFaddr 0 (tg 7)),
  il 18 (tg 17) (mLoad1 (tg 17)),
  ip 19 (pBin .leq (tg 18) (cv (.int .i64 2)))]
@[simp] def ob0_3_ap := ops_rule (c := ob0_3) rfl
def ob0_4 : List IS := [ip 20 (pMov (tg 0)),
  il 21 (tg 7) (mLoadN 4 (tg 7)),
  im 1 22 (mBslice 4 1 (rep 1 [(.int .i64 0), (.int .u64 0), (.int .i64 0), (.int .i64 0)]) [(0, 4, (tg 21))]),
  im 3 23 (mAppend 4 32 (tg 20) (tg 22)),
  ip 6 (pMov (tg 23))]
@[simp] def ob0_4_ap := ops_rule (c := ob0_4) rfl
def cb7 : SC := sSeq (sReg (seqI ob0_4)) sRet
@[simp] def cb7_ap := seq_rule (c := cb7) rfl
def cb0_2 : SC := sCond (tg 19) cb7 sSkip
@[simp] def cb0_2_ap := cond_rule (c := cb0_2) rfl
def cb0_3 : SC := sSeq (sReg (seqI ob0_3)) cb0_2
@[simp] def cb0_3_ap := seq_rule (c := cb0_3) rfl
def ob0_5 : List IS := [ip 24 (pMov (tg 0)),
  ip 25 (pLen (tg 24)),
  ip 8 (pMov (tg 25))]
@[simp] def ob0_5_ap := ops_rule (c := ob0_5) rfl
def ob0_6 : List IS := [ip 26 (pMov (tg 0)),
  ip 27 (pMov (tg 1)),
  ip 28 (pFaddr 2 (tg 7)),
  il 29 (tg 28) (mLoad1 (tg 28)),
  im 3 30 (mCall 50 [(tg 26), (tg 27), (tg 29)]),
  ip 0 (pMov (tg 30))]
@[simp] def ob0_6_ap := ops_rule (c := ob0_6) rfl
def ob0_7 : List IS := [ip 31 (pFaddr 0 (tg 7)),
  il 32 (tg 31) (mLoad1 (tg 31)),
  ip 33 (pMov (tg 0)),
  ip 34 (pLen (tg 33)),
  ip 35 (pBin .sub (tg 34) (cv (.int .i64 1))),
  ip 36 (pBuild [(.int .i64 0), (.int .u64 0), (.int .i64 0), (.int .i64 0)] [(0, 1, (tg 32)), (2, 1, (tg 35))]),
  im 1 9 (mAlloc [(.int .i64 0), (.int .u64 0), (.int .i64 0), (.int .i64 0)]),
  im0 3 (mStore 4 (tg 9) (tg 36))]
@[simp] def ob0_7_ap := ops_rule (c := ob0_7) rfl
def ob0_8 : List IS := [ip 37 (pFaddr 0 (tg 7)),
  il 38 (tg 37) (mLoad1 (tg 37)),
  ip 39 (pBin .geq (tg 38) (cv (.int .i64 6)))]
@[simp] def ob0_8_ap := ops_rule (c := ob0_8) rfl
def ob0_9 : List IS := [ip 40 (pMov (tg 0)),
  ip 41 (pMov (tg 1)),
  ip 42 (pFaddr 3 (tg 7)),
  il 43 (tg 42) (mLoad1 (tg 42)),
  im 3 44 (mCall 50 [(tg 40), (tg 41), (tg 43)]),
  ip 0 (pMov (tg 44))]
@[simp] def ob0_9_ap := ops_rule (c := ob0_9) rfl
def ob0_10 : List IS := [ip 45 (pMov (tg 0)),
  ip 46 (pLen (tg 45)),
  ip 47 (pBin .sub (tg 46) (cv (.int .i64 1))),
  ip 48 (pFaddr 3 (tg 9)),
  im0 3 (mStore 1 (tg 48) (tg 47))]
@[simp] def ob0_10_ap := ops_rule (c := ob0_10) rfl
def cb0_4 : SC := sSeq (sReg (seqI ob0_9)) (sReg (seqI ob0_10))
@[simp] def cb0_4_ap := seq_rule (c := cb0_4) rfl
def cb0_5 : SC := sCond (tg 39) cb0_4 sSkip
@[simp] def cb0_5_ap := cond_rule (c := cb0_5) rfl
def cb0_6 : SC := sSeq (sReg (seqI ob0_8)) cb0_5
@[simp] def cb0_6_ap := seq_rule (c := cb0_6) rfl
def ob0_11 : List IS := [ip 49 (pMov (tg 0)),
  ip 50 (pMov (tg 8)),
  ip 51 (pSlice 4 (tg 49) (some (tg 50)) none none),
  im 3 52 (mCall 97 [(tg 51)]),
  ip 10 (pMov (tg 52))]
@[simp] def ob0_11_ap := ops_rule (c := ob0_11) rfl
def ob0_12 : List IS := [ip 53 (pMov (tg 10)),
  im 3 54 (mCall 98 [(tg 53), (cv (.func (.func 99) #[] #[]))])]
@[simp] def ob0_12_ap := ops_rule (c := ob0_12) rfl
def ob0_13 : List IS := [ip 55 (pMov (tg 0)),
  il 56 (tg 9) (mLoadN 4 (tg 9)),
  im 1 57 (mBslice 4 1 (rep 1 [(.int .i64 0), (.int .u64 0), (.int .i64 0), (.int .i64 0)]) [(0, 4, (tg 56))]),
  im 3 58 (mAppend 4 32 (tg 55) (tg 57)),
  ip 6 (pMov (tg 58))]
@[simp] def ob0_13_ap := ops_rule (c := ob0_13) rfl
def cb0_7 : SC := sSeq (sReg (seqI ob0_13)) sRet
@[simp] def cb0_7_ap := seq_rule (c := cb0_7) rfl
def cb0_8 : SC := sCond (tg 54) cb0_7 sSkip
@[simp] def cb0_8_ap := cond_rule (c := cb0_8) rfl
def cb0_9 : SC := sSeq (sReg (seqI ob0_12)) cb0_8
@[simp] def cb0_9_ap := seq_rule (c := cb0_9) rfl
def ob0_14 : List IS := [ip 59 (pFaddr 2 (tg 9)),
  il 60 (tg 59) (mLoad1 (tg 59)),
  ip 61 (pMov (tg 8)),
  ip 62 (pBin .sub (tg 60) (tg 61)),
  ip 63 (pFaddr 2 (tg 9)),
  im0 3 (mStore 1 (tg 63) (tg 62))]
@[simp] def ob0_14_ap := ops_rule (c := ob0_14) rfl
def ob0_15 : List IS := [ip 64 (pFaddr 0 (tg 7)),
  il 65 (tg 64) (mLoad1 (tg 64)),
  ip 66 (pBin .geq (tg 65) (cv (.int .i64 6)))]
@[simp] def ob0_15_ap := ops_rule (c := ob0_15) rfl
def ob0_16 : List IS := [ip 67 (pFaddr 3 (tg 9)),
  il 68 (tg 67) (mLoad1 (tg 67)),
  ip 69 (pMov (tg 8)),
  ip 70 (pBin .sub (tg 68) (tg 69)),
  ip 71 (pFaddr 3 (tg 9)),
  im0 3 (mStore 1 (tg 71) (tg 70))]
@[simp] def ob0_16_ap := ops_rule (c := ob0_16) rfl
def cb0_10 : SC := sCond (tg 66) (sReg (seqI ob0_16)) sSkip
@[simp] def cb0_10_ap := cond_rule (c := cb0_10) rfl
def cb0_11 : SC := sSeq (sReg (seqI ob0_15)) cb0_10
@[simp] def cb0_11_ap := seq_rule (c := cb0_11) rfl
def ob0_17 : List IS := [ip 73 (pMov (tg 10)),
  il 74 (tg 9) (mLoadN 4 (tg 9)),
  im 1 75 (mBslice 4 1 (rep 1 [(.int .i64 0), (.int .u64 0), (.int .i64 0), (.int .i64 0)]) [(0, 4, (tg 74))]),
  im 3 76 (mAppend 4 32 (tg 73) (tg 75)),
  im 3 77 (mCall 100 [(tg 76), (cv (.slice none 0 0))]),
  ip 72 (pMov (tg 77)),
  ip 78 (pExtract (tg 72) 0),
  ip 79 (pExtract (tg 72) 1),
  ip 11 (pMov (tg 78)),
  ip 12 (pMov (tg 79))]
@[simp] def ob0_17_ap := ops_rule (c := ob0_17) rfl
def ob0_18 : List IS := [ip 80 (pMov (tg 0)),
  ip 81 (pMov (tg 8)),
  ip 82 (pSlice 4 (tg 80) none (some (tg 81)) none),
  ip 83 (pMov (tg 11)),
  ip 84 (pBuild [(.int .i64 0), (.int .u64 0), (.int .i64 0), (.int .i64 0)] [(0, 1, (cv (.int .i64 1))), (1, 1, (tg 83))]),
  im 1 85 (mBslice 4 1 (rep 1 [(.int .i64 0), (.int .u64 0), (.int .i64 0), (.int .i64 0)]) [(0, 4, (tg 84))]),
  im 3 86 (mAppend 4 32 (tg 82) (tg 85)),
  ip 6 (pMov (tg 86))]
@[simp] def ob0_18_ap := ops_rule (c := ob0_18) rfl
def cb0_12 : SC := sSeq (sReg (seqI ob0_18)) sRet
@[simp] def cb0_12_ap := seq_rule (c := cb0_12) rfl
def cb0_13 : SC := sSeq (sReg (seqI ob0_17)) cb0_12
@[simp] def cb0_13_ap := seq_rule (c := cb0_13) rfl
def cb0_14 : SC := sSeq cb0_11 cb0_13
@[simp] def cb0_14_ap := seq_rule (c := cb0_14) rfl
def cb0_15 : SC := sSeq (sReg (seqI ob0_14)) cb0_14
@[simp] def cb0_15_ap := seq_rule (c := cb0_15) rfl
def cb0_16 : SC := sSeq cb0_9 cb0_15
@[simp] def cb0_16_ap := seq_rule (c := cb0_16) rfl
def cb0_17 : SC := sSeq (sReg (seqI ob0_11)) cb0_16
@[simp] def cb0_17_ap := seq_rule (c := cb0_17) rfl
def cb0_18 : SC := sSeq cb0_6 cb0_17
@[simp] def cb0_18_ap := seq_rule (c := cb0_18) rfl
def cb0_19 : SC := sSeq (sReg (seqI ob0_7)) cb0_18
@[simp] def cb0_19_ap := seq_rule (c := cb0_19) rfl
def cb0_20 : SC := sSeq (sReg (seqI ob0_6)) cb0_19
@[simp] def cb0_20_ap := seq_rule (c := cb0_20) rfl
def cb0_21 : SC := sSeq (sReg (seqI ob0_5)) cb0_20
@[simp] def cb0_21_ap := seq_rule (c := cb0_21) rfl
def cb0_22 : SC := sSeq cb0_3 cb0_21
@[simp] def cb0_22_ap := seq_rule (c := cb0_22) rfl
def cb0_23 : SC := sSeq (sReg (seqI ob0_2)) cb0_22
@[simp] def cb0_23_ap := seq_rule (c := cb0_23) rfl
def cb0_24 : SC := sSeq (sReg (seqI ob7)) cb0_23
@[simp] def cb0_24_ap := seq_rule (c := cb0_24) rfl
def db0 : DFn := ⟨cb0_24, 87, [.t 6]⟩
theorem db0_ok : fnOf Tryz.prog 50 = some db0 := by kernel_rfl
def ob1_1 : List IS := [ip 4 (pMov (cv (.bool false)))]
@[simp] def ob1_1_ap := ops_rule (c := ob1_1) rfl
def ob1_2 : List IS := [ip 9 (pMov (tg 0)),
  ip 10 (pLen (tg 9)),
  ip 11 (pBin .eql (tg 10) (cv (.int .i64 0))),
  ip 12 (pMov (tg 11)),
  gd 12 false (some 13) (ip 13 (pMov (tg 0))),
  gd 12 false (some 14) (ip 14 (pLen (tg 13))),
  gd 12 false (some 15) (ip 15 (pBin .gtr (tg 14) (cv (.int .i64 65536)))),
  ip 16 (pPick (tg 12) (cv (.bool true)) (tg 15))]
@[simp] def ob1_2_ap := ops_rule (c := ob1_2) rfl
def ob1_3 : List IS := [ip 4 (pMov (cv (.bool false)))]
@[simp] def ob1_3_ap := ops_rule (c := ob1_3) rfl
def cb1_1 : SC := sSeq (sReg (seqI ob1_3)) sRet
@[simp] def cb1_1_ap := seq_rule (c := cb1_1) rfl
def cb1_2 : SC := sCond (tg 16) cb1_1 sSkip
@[simp] def cb1_2_ap := cond_rule (c := cb1_2) rfl
def cb1_3 : SC := sSeq (sReg (seqI ob1_2)) cb1_2
@[simp] def cb1_3_ap := seq_rule (c := cb1_3) rfl
def ob1_4 : List IS := [ip 17 (pMov (tg 0)),
  ip 18 (pLen (tg 17)),
  im 1 19 (mMkslice 1 1 [(.bool false)] (tg 18) (tg 18)),
  ip 5 (pMov (tg 19))]
@[simp] def ob1_4_ap := ops_rule (c := ob1_4) rfl
def ob1_5 : List IS := [ip 6 (pMov (cv (.int .i64 0)))]
@[simp] def ob1_5_ap := ops_rule (c := ob1_5) rfl
def ob1_6 : List IS := [ip 20 (pMov (tg 6)),
  ip 21 (pMov (tg 0)),
  ip 22 (pLen (tg 21)),
  ip 23 (pBin .lss (tg 20) (tg 22))]
@[simp] def ob1_6_ap := ops_rule (c := ob1_6) rfl
def cb1_4 : SC := sCond (tg 23) sSkip (sExit 0)
@[simp] def cb1_4_ap := cond_rule (c := cb1_4) rfl
def cb1_5 : SC := sSeq (sReg (seqI ob1_6)) cb1_4
@[simp] def cb1_5_ap := seq_rule (c := cb1_5) rfl
def ob1_7 : List IS := [ip 26 (pMov (tg 0)),
  ip 27 (pMov (tg 6)),
  ip 28 (pIaddrS 4 (tg 26) (tg 27)),
  il 29 (tg 28) (mLoadN 4 (tg 28)),
  im 1 7 (mAlloc [(.int .i64 0), (.int .u64 0), (.int .i64 0), (.int .i64 0)]),
  im0 3 (mStore 4 (tg 7) (tg 29))]
@[simp] def ob1_7_ap := ops_rule (c := ob1_7) rfl
def ob1_8 : List IS := [ip 30 (pFaddr 0 (tg 7)),
  il 31 (tg 30) (mLoad1 (tg 30)),
  ip 32 (pBin .eql (tg 31) (cv (.int .i64 1))),
  ip 33 (pMov (tg 32)),
  gd 33 false (some 34) (ip 34 (pFaddr 0 (tg 7))),
  gd 33 false (some 35) (il 35 (tg 34) (mLoad1 (tg 34))),
  gd 33 false (some 36) (ip 36 (pBin .eql (tg 35) (cv (.int .i64 2)))),
  ip 37 (pPick (tg 33) (cv (.bool true)) (tg 36))]
@[simp] def ob1_8_ap := ops_rule (c := ob1_8) rfl
def ob1_9 : List IS := [ip 38 (pFaddr 2 (tg 7)),
  il 39 (tg 38) (mLoad1 (tg 38)),
  ip 40 (pBin .neq (tg 39) (cv (.int .i64 0))),
  ip 41 (pMov (tg 40)),
  gd 41 false (some 42) (ip 42 (pFaddr 3 (tg 7))),
  gd 41 false (some 43) (il 43 (tg 42) (mLoad1 (tg 42))),
  gd 41 false (some 44) (ip 44 (pBin .neq (tg 43) (cv (.int .i64 0)))),
  ip 45 (pPick (tg 41) (cv (.bool true)) (tg 44)),
  ip 46 (pMov (tg 45)),
  gd 46 false (some 47) (ip 47 (pFaddr 0 (tg 7))),
  gd 46 false (some 48) (il 48 (tg 47) (mLoad1 (tg 47))),
  gd 46 false (some 49) (ip 49 (pBin .eql (tg 48) (cv (.int .i64 2)))),
  gd 46 false (some 50) (ip 50 (pMov (tg 49))),
  gd 50 true (some 51) (ip 51 (pFaddr 1 (tg 7))),
  gd 50 true (some 52) (il 52 (tg 51) (mLoad1 (tg 51))),
  gd 50 true (some 53) (ip 53 (pMov (tg 1))),
  gd 50 true (some 54) (ip 54 (pConvI .u64 (tg 53))),
  gd 50 true (some 55) (ip 55 (pBin .geq (tg 52) (tg 54))),
  gd 46 false (some 56) (ip 56 (pPick (tg 50) (tg 55) (cv (.bool false)))),
  ip 57 (pPick (tg 46) (cv (.bool true)) (tg 56))]
@[simp] def ob1_9_ap := ops_rule (c := ob1_9) rfl
def ob1_10 : List IS := [ip 4 (pMov (cv (.bool false)))]
@[simp] def ob1_10_ap := ops_rule (c := ob1_10) rfl
def cb1_6 : SC := sSeq (sReg (seqI ob1_10)) sRet
@[simp] def cb1_6_ap := seq_rule (c := cb1_6) rfl
def cb1_7 : SC := sCond (tg 57) cb1_6 sSkip
@[simp] def cb1_7_ap := cond_rule (c := cb1_7) rfl
def cb1_8 : SC := sSeq (sReg (seqI ob1_9)) cb1_7
@[simp] def cb1_8_ap := seq_rule (c := cb1_8) rfl
def cb1_9 : SC := sSeq cb1_8 (sExit 1)
@[simp] def cb1_9_ap := seq_rule (c := cb1_9) rfl
def cb1_10 : SC := sCond (tg 37) cb1_9 sSkip
@[simp] def cb1_10_ap := cond_rule (c := cb1_10) rfl
def cb1_11 : SC := sSeq (sReg (seqI ob1_8)) cb1_10
@[simp] def cb1_11_ap := seq_rule (c := cb1_11) rfl
def ob1_11 : List IS := [ip 58 (pFaddr 0 (tg 7)),
  il 59 (tg 58) (mLoad1 (tg 58)),
  ip 60 (pBin .lss (tg 59) (cv (.int .i64 1))),
  ip 61 (pMov (tg 60)),
  gd 61 false (some 62) (ip 62 (pFaddr 0 (tg 7))),
  gd 61 false (some 63) (il 63 (tg 62) (mLoad1 (tg 62))),
  gd 61 false (some 64) (ip 64 (pBin .gtr (tg 63) (cv (.int .i64 19)))),
  ip 65 (pPick (tg 61) (cv (.bool true)) (tg 64)),
  ip 66 (pMov (tg 65)),
  gd 66 false (some 67) (ip 67 (pFaddr 1 (tg 7))),
  gd 66 false (some 68) (il 68 (tg 67) (mLoad1 (tg 67))),
  gd 66 false (some 69) (ip 69 (pBin .neq (tg 68) (cv (.int .u64 0)))),
  ip 70 (pPick (tg 66) (cv (.bool true)) (tg 69)),
  ip 71 (pMov (tg 70)),
  gd 71 false (some 72) (ip 72 (pFaddr 2 (tg 7))),
  gd 71 false (some 73) (il 73 (tg 72) (mLoad1 (tg 72))),
  gd 71 false (some 74) (ip 74 (pBin .lss (tg 73) (cv (.int .i64 0)))),
  ip 75 (pPick (tg 71) (cv (.bool true)) (tg 74)),
  ip 76 (pMov (tg 75)),
  gd 76 false (some 77) (ip 77 (pFaddr 2 (tg 7))),
  gd 76 false (some 78) (il 78 (tg 77) (mLoad1 (tg 77))),
  gd 76 false (some 79) (ip 79 (pMov (tg 6))),
  gd 76 false (some 80) (ip 80 (pBin .geq (tg 78) (tg 79))),
  ip 81 (pPick (tg 76) (cv (.bool true)) (tg 80)),
  ip 82 (pMov (tg 81)),
  gd 82 false (some 83) (ip 83 (pMov (tg 5))),
  gd 82 false (some 84) (ip 84 (pFaddr 2 (tg 7))),
  gd 82 false (some 85) (il 85 (tg 84) (mLoad1 (tg 84))),
  gd 82 false (some 86) (ip 86 (pIaddrS 1 (tg 83) (tg 85))),
  gd 82 false (some 87) (il 87 (tg 86) (mLoad1 (tg 86))),
  ip 88 (pPick (tg 82) (cv (.bool true)) (tg 87))]
@[simp] def ob1_11_ap := ops_rule (c := ob1_11) rfl
def ob1_12 : List IS := [ip 4 (pMov (cv (.bool false)))]
@[simp] def ob1_12_ap := ops_rule (c := ob1_12) rfl
def cb1_12 : SC := sSeq (sReg (seqI ob1_12)) sRet
@[simp] def cb1_12_ap := seq_rule (c := cb1_12) rfl
def cb1_13 : SC := sCond (tg 88) cb1_12 sSkip
@[simp] def cb1_13_ap := cond_rule (c := cb1_13) rfl
def cb1_14 : SC := sSeq (sReg (seqI ob1_11)) cb1_13
@[simp] def cb1_14_ap := seq_rule (c := cb1_14) rfl
def ob1_13 : List IS := [ip 89 (pMov (tg 5)),
  ip 90 (pFaddr 2 (tg 7)),
  il 91 (tg 90) (mLoad1 (tg 90)),
  ip 92 (pIaddrS 1 (tg 89) (tg 91)),
  im0 3 (mStore 1 (tg 92) (cv (.bool true)))]
@[simp] def ob1_13_ap := ops_rule (c := ob1_13) rfl
def ob1_14 : List IS := [ip 93 (pFaddr 0 (tg 7)),
  il 94 (tg 93) (mLoad1 (tg 93)),
  ip 95 (pBin .leq (tg 94) (cv (.int .i64 5)))]
@[simp] def ob1_14_ap := ops_rule (c := ob1_14) rfl
def ob1_15 : List IS := [ip 96 (pFaddr 3 (tg 7)),
  il 97 (tg 96) (mLoad1 (tg 96)),
  ip 98 (pBin .neq (tg 97) (cv (.int .i64 0)))]
@[simp] def ob1_15_ap := ops_rule (c := ob1_15) rfl
def ob1_16 : List IS := [ip 4 (pMov (cv (.bool false)))]
@[simp] def ob1_16_ap := ops_rule (c := ob1_16) rfl
def cb1_15 : SC := sSeq (sReg (seqI ob1_16)) sRet
@[simp] def cb1_15_ap := seq_rule (c := cb1_15) rfl
def cb1_16 : SC := sCond (tg 98) cb1_15 sSkip
@[simp] def cb1_16_ap := cond_rule (c := cb1_16) rfl
def cb1_17 : SC := sSeq (sReg (seqI ob1_15)) cb1_16
@[simp] def cb1_17_ap := seq_rule (c := cb1_17) rfl
def cb1_18 : SC := sSeq cb1_17 (sExit 1)
@[simp] def cb1_18_ap := seq_rule (c := cb1_18) rfl
def cb1_19 : SC := sCond (tg 95) cb1_18 sSkip
@[simp] def cb1_19_ap := cond_rule (c := cb1_19) rfl
def cb1_20 : SC := sSeq (sReg (seqI ob1_14)) cb1_19
@[simp] def cb1_20_ap := seq_rule (c := cb1_20) rfl
def ob1_17 : List IS := [ip 99 (pFaddr 3 (tg 7)),
  il 100 (tg 99) (mLoad1 (tg 99)),
  ip 101 (pBin .lss (tg 100) (cv (.int .i64 0))),
  ip 102 (pMov (tg 101)),
  gd 102 false (some 103) (ip 103 (pFaddr 3 (tg 7))),
  gd 102 false (some 104) (il 104 (tg 103) (mLoad1 (tg 103))),
  gd 102 false (some 105) (ip 105 (pMov (tg 6))),
  gd 102 false (some 106) (ip 106 (pBin .geq (tg 104) (tg 105))),
  ip 107 (pPick (tg 102) (cv (.bool true)) (tg 106)),
  ip 108 (pMov (tg 107)),
  gd 108 false (some 109) (ip 109 (pMov (tg 5))),
  gd 108 false (some 110) (ip 110 (pFaddr 3 (tg 7))),
  gd 108 false (some 111) (il 111 (tg 110) (mLoad1 (tg 110))),
  gd 108 false (some 112) (ip 112 (pIaddrS 1 (tg 109) (tg 111))),
  gd 108 false (some 113) (il 113 (tg 112) (mLoad1 (tg 112))),
  ip 114 (pPick (tg 108) (cv (.bool true)) (tg 113))]
@[simp] def ob1_17_ap := ops_rule (c := ob1_17) rfl
def ob1_18 : List IS := [ip 4 (pMov (cv (.bool false)))]
@[simp] def ob1_18_ap := ops_rule (c := ob1_18) rfl
def cb1_21 : SC := sSeq (sReg (seqI ob1_18)) sRet
@[simp] def cb1_21_ap := seq_rule (c := cb1_21) rfl
def cb1_22 : SC := sCond (tg 114) cb1_21 sSkip
@[simp] def cb1_22_ap := cond_rule (c := cb1_22) rfl
def cb1_23 : SC := sSeq (sReg (seqI ob1_17)) cb1_22
@[simp] def cb1_23_ap := seq_rule (c := cb1_23) rfl
def ob1_19 : List IS := [ip 115 (pMov (tg 5)),
  ip 116 (pFaddr 3 (tg 7)),
  il 117 (tg 116) (mLoad1 (tg 116)),
  ip 118 (pIaddrS 1 (tg 115) (tg 117)),
  im0 3 (mStore 1 (tg 118) (cv (.bool true)))]
@[simp] def ob1_19_ap := ops_rule (c := ob1_19) rfl
def cb1_24 : SC := sSeq cb1_23 (sReg (seqI ob1_19))
@[simp] def cb1_24_ap := seq_rule (c := cb1_24) rfl
def cb1_25 : SC := sSeq cb1_20 cb1_24
@[simp] def cb1_25_ap := seq_rule (c := cb1_25) rfl
def cb1_26 : SC := sSeq (sReg (seqI ob1_13)) cb1_25
@[simp] def cb1_26_ap := seq_rule (c := cb1_26) rfl
def cb1_27 : SC := sSeq cb1_14 cb1_26
@[simp] def cb1_27_ap := seq_rule (c := cb1_27) rfl
def cb1_28 : SC := sSeq cb1_11 cb1_27
@[simp] def cb1_28_ap := seq_rule (c := cb1_28) rfl
def cb1_29 : SC := sSeq (sReg (seqI ob1_7)) cb1_28
@[simp] def cb1_29_ap := seq_rule (c := cb1_29) rfl
def cb1_30 : SC := sBlock 1 cb1_29
@[simp] def cb1_30_ap := block_rule (c := cb1_30) rfl
def ob1_20 : List IS := [ip 24 (pMov (tg 6)),
  ip 25 (pBin .add (tg 24) (cv (.int .i64 1))),
  ip 6 (pMov (tg 25))]
@[simp] def ob1_20_ap := ops_rule (c := ob1_20) rfl
def cb1_31 : SC := sSeq cb1_30 (sReg (seqI ob1_20))
@[simp] def cb1_31_ap := seq_rule (c := cb1_31) rfl
def cb1_32 : SC := sSeq cb1_5 cb1_31
@[simp] def cb1_32_ap := seq_rule (c := cb1_32) rfl
def cb1_33 : SC := sLoop cb1_32
def cb1_34 : SC := sBlock 0 cb1_33
@[simp] def cb1_34_ap := block_rule (c := cb1_34) rfl
def cb1_35 : SC := sSeq (sReg (seqI ob1_5)) cb1_34
@[simp] def cb1_35_ap := seq_rule (c := cb1_35) rfl
def ob1_21 : List IS := [ip 8 (pMov (cv (.int .i64 0)))]
@[simp] def ob1_21_ap := ops_rule (c := ob1_21) rfl
def ob1_22 : List IS := [ip 119 (pMov (tg 8)),
  ip 120 (pMov (tg 0)),
  ip 121 (pLen (tg 120)),
  ip 122 (pBin .sub (tg 121) (cv (.int .i64 1))),
  ip 123 (pBin .lss (tg 119) (tg 122))]
@[simp] def ob1_22_ap := ops_rule (c := ob1_22) rfl
def cb1_36 : SC := sCond (tg 123) sSkip (sExit 2)
@[simp] def cb1_36_ap := cond_rule (c := cb1_36) rfl
def cb1_37 : SC := sSeq (sReg (seqI ob1_22)) cb1_36
@[simp] def cb1_37_ap := seq_rule (c := cb1_37) rfl
def ob1_23 : List IS := [ip 126 (pMov (tg 5)),
  ip 127 (pMov (tg 8)),
  ip 128 (pIaddrS 1 (tg 126) (tg 127)),
  il 129 (tg 128) (mLoad1 (tg 128)),
  ip 130 (pUn .not (tg 129))]
@[simp] def ob1_23_ap := ops_rule (c := ob1_23) rfl
def ob1_24 : List IS := [ip 4 (pMov (cv (.bool false)))]
@[simp] def ob1_24_ap := ops_rule (c := ob1_24) rfl
def cb1_38 : SC := sSeq (sReg (seqI ob1_24)) sRet
@[simp] def cb1_38_ap := seq_rule (c := cb1_38) rfl
def cb1_39 : SC := sCond (tg 130) cb1_38 sSkip
@[simp] def cb1_39_ap := cond_rule (c := cb1_39) rfl
def cb1_40 : SC := sSeq (sReg (seqI ob1_23)) cb1_39
@[simp] def cb1_40_ap := seq_rule (c := cb1_40) rfl
def cb1_41 : SC := sBlock 3 cb1_40
@[simp] def cb1_41_ap := block_rule (c := cb1_41) rfl
def ob1_25 : List IS := [ip 124 (pMov (tg 8)),
  ip 125 (pBin .add (tg 124) (cv (.int .i64 1))),
  ip 8 (pMov (tg 125))]
@[simp] def ob1_25_ap := ops_rule (c := ob1_25) rfl
def cb1_42 : SC := sSeq cb1_41 (sReg (seqI ob1_25))
@[simp] def cb1_42_ap := seq_rule (c := cb1_42) rfl
def cb1_43 : SC := sSeq cb1_37 cb1_42
@[simp] def cb1_43_ap := seq_rule (c := cb1_43) rfl
def cb1_44 : SC := sLoop cb1_43
def cb1_45 : SC := sBlock 2 cb1_44
@[simp] def cb1_45_ap := block_rule (c := cb1_45) rfl
def cb1_46 : SC := sSeq (sReg (seqI ob1_21)) cb1_45
@[simp] def cb1_46_ap := seq_rule (c := cb1_46) rfl
def ob1_26 : List IS := [ip 4 (pMov (cv (.bool true)))]
@[simp] def ob1_26_ap := ops_rule (c := ob1_26) rfl
def cb1_47 : SC := sSeq (sReg (seqI ob1_26)) sRet
@[simp] def cb1_47_ap := seq_rule (c := cb1_47) rfl
def cb1_48 : SC := sSeq cb1_46 cb1_47
@[simp] def cb1_48_ap := seq_rule (c := cb1_48) rfl
def cb1_49 : SC := sSeq cb1_35 cb1_48
@[simp] def cb1_49_ap := seq_rule (c := cb1_49) rfl
def cb1_50 : SC := sSeq (sReg (seqI ob1_4)) cb1_49
@[simp] def cb1_50_ap := seq_rule (c := cb1_50) rfl
def cb1_51 : SC := sSeq cb1_3 cb1_50
@[simp] def cb1_51_ap := seq_rule (c := cb1_51) rfl
def cb1_52 : SC := sSeq (sReg (seqI ob1_1)) cb1_51
@[simp] def cb1_52_ap := seq_rule (c := cb1_52) rfl
def db1 : DFn := ⟨cb1_52, 131, [.t 4]⟩
theorem db1_ok : fnOf Tryz.prog 51 = some db1 := by kernel_rfl
def ob2_1 : List IS := [ip 6 (pMov (cv (.slice none 0 0)))]
@[simp] def ob2_1_ap := ops_rule (c := ob2_1) rfl
def ob2_2 : List IS := [ip 12 (pMov (tg 1)),
  ip 13 (pMov (tg 2)),
  im 3 14 (mCall 101 [(tg 12), (tg 13)]),
  ip 11 (pMov (tg 14)),
  ip 15 (pExtract (tg 11) 0),
  ip 16 (pExtract (tg 11) 1),
  ip 7 (pMov (tg 15)),
  ip 8 (pMov (tg 16))]
@[simp] def ob2_2_ap := ops_rule (c := ob2_2) rfl
def ob2_3 : List IS := [ip 17 (pMov (tg 8))]
@[simp] def ob2_3_ap := ops_rule (c := ob2_3) rfl
def ob2_4 : List IS := [ip 18 (pMov (tg 0)),
  ip 19 (pMov (tg 7)),
  ip 20 (pBuild [(.int .i64 0), (.int .u64 0), (.int .i64 0), (.int .i64 0)] [(0, 1, (cv (.int .i64 1))), (1, 1, (tg 19))]),
  im 1 21 (mBslice 4 1 (rep 1 [(.int .i64 0), (.int .u64 0), (.int .i64 0), (.int .i64 0)]) [(0, 4, (tg 20))]),
  im 3 22 (mAppend 4 32 (tg 18) (tg 21)),
  ip 6 (pMov (tg 22))]
@[simp] def ob2_4_ap := ops_rule (c := ob2_4) rfl
def cb2_1 : SC := sSeq (sReg (seqI ob2_4)) sRet
@[simp] def cb2_1_ap := seq_rule (c := cb2_1) rfl
def cb2_2 : SC := sCond (tg 17) cb2_1 sSkip
@[simp] def cb2_2_ap := cond_rule (c := cb2_2) rfl
def cb2_3 : SC := sSeq (sReg (seqI ob2_3)) cb2_2
@[simp] def cb2_3_ap := seq_rule (c := cb2_3) rfl
def ob2_5 : List IS := [ip 23 (pMov (tg 1)),
  ip 24 (pMov (tg 2)),
  ip 25 (pIaddrS 4 (tg 23) (tg 24)),
  il 26 (tg 25) (mLoadN 4 (tg 25)),
  im 1 9 (mAlloc [(.int .i64 0), (.int .u64 0), (.int .i64 0), (.int .i64 0)]),
  im0 3 (mStore 4 (tg 9) (tg 26))]
@[simp] def ob2_5_ap := ops_rule (c := ob2_5) rfl
def ob2_6 : List IS := [ip 27 (pFaddr 0 (tg 9)),
  il 28 (tg 27) (mLoad1 (tg 27)),
  ip 29 (pBin .eql (tg 28) (cv (.int .i64 2)))]
@[simp] def ob2_6_ap := ops_rule (c := ob2_6) rfl
def ob2_7 : List IS := [ip 30 (pMov (tg 0)),
  il 31 (tg 9) (mLoadN 4 (tg 9)),
  im 1 32 (mBslice 4 1 (rep 1 [(.int .i64 0), (.int .u64 0), (.int .i64 0), (.int .i64 0)]) [(0, 4, (tg 31))]),
  im 3 33 (mAppend 4 32 (tg 30) (tg 32)),
  ip 6 (pMov (tg 33))]
@[simp] def ob2_7_ap := ops_rule (c := ob2_7) rfl
def cb2_4 : SC := sSeq (sReg (seqI ob2_7)) sRet
@[simp] def cb2_4_ap := seq_rule (c := cb2_4) rfl
def cb2_5 : SC := sCond (tg 29) cb2_4 sSkip
@[simp] def cb2_5_ap := cond_rule (c := cb2_5) rfl
def cb2_6 : SC := sSeq (sReg (seqI ob2_6)) cb2_5
@[simp] def cb2_6_ap := seq_rule (c := cb2_6) rfl
def ob2_8 : List IS := [ip 34 (pMov (tg 0)),
  ip 35 (pMov (tg 1)),
  ip 36 (pFaddr 2 (tg 9)),
  il 37 (tg 36) (mLoad1 (tg 36)),
  im 3 38 (mCall 52 [(tg 34), (tg 35), (tg 37)]),
  ip 0 (pMov (tg 38))]
@[simp] def ob2_8_ap := ops_rule (c := ob2_8) rfl
def ob2_9 : List IS := [ip 39 (pFaddr 0 (tg 9)),
  il 40 (tg 39) (mLoad1 (tg 39)),
  ip 41 (pMov (tg 0)),
  ip 42 (pLen (tg 41)),
  ip 43 (pBin .sub (tg 42) (cv (.int .i64 1))),
  ip 44 (pBuild [(.int .i64 0), (.int .u64 0), (.int .i64 0), (.int .i64 0)] [(0, 1, (tg 40)), (2, 1, (tg 43))]),
  im 1 10 (mAlloc [(.int .i64 0), (.int .u64 0), (.int .i64 0), (.int .i64 0)]),
  im0 3 (mStore 4 (tg 10) (tg 44))]
@[simp] def ob2_9_ap := ops_rule (c := ob2_9) rfl
def ob2_10 : List IS := [ip 45 (pFaddr 0 (tg 9)),
  il 46 (tg 45) (mLoad1 (tg 45)),
  ip 47 (pBin .geq (tg 46) (cv (.int .i64 6)))]
@[simp] def ob2_10_ap := ops_rule (c := ob2_10) rfl
def ob2_11 : List IS := [ip 48 (pMov (tg 0)),
  ip 49 (pMov (tg 1)),
  ip 50 (pFaddr 3 (tg 9)),
  il 51 (tg 50) (mLoad1 (tg 50)),
  im 3 52 (mCall 52 [(tg 48), (tg 49), (tg 51)]),
  ip 0 (pMov (tg 52))]
@[simp] def ob2_11_ap := ops_rule (c := ob2_11) rfl
def ob2_12 : List IS := [ip 53 (pMov (tg 0)),
  ip 54 (pLen (tg 53)),
  ip 55 (pBin .sub (tg 54) (cv (.int .i64 1))),
  ip 56 (pFaddr 3 (tg 10)),
  im0 3 (mStore 1 (tg 56) (tg 55))]
@[simp] def ob2_12_ap := ops_rule (c := ob2_12) rfl
def cb2_7 : SC := sSeq (sReg (seqI ob2_11)) (sReg (seqI ob2_12))
@[simp] def cb2_7_ap := seq_rule (c := cb2_7) rfl
def cb2_8 : SC := sCond (tg 47) cb2_7 sSkip
@[simp] def cb2_8_ap := cond_rule (c := cb2_8) rfl
def cb2_9 : SC := sSeq (sReg (seqI ob2_10)) cb2_8
@[simp] def cb2_9_ap := seq_rule (c := cb2_9) rfl
def ob2_13 : List IS := [ip 57 (pMov (tg 0)),
  il 58 (tg 10) (mLoadN 4 (tg 10)),
  im 1 59 (mBslice 4 1 (rep 1 [(.int .i64 0), (.int .u64 0), (.int .i64 0), (.int .i64 0)]) [(0, 4, (tg 58))]),
  im 3 60 (mAppend 4 32 (tg 57) (tg 59)),
  ip 6 (pMov (tg 60))]
@[simp] def ob2_13_ap := ops_rule (c := ob2_13) rfl
def cb2_10 : SC := sSeq (sReg (seqI ob2_13)) sRet
@[simp] def cb2_10_ap := seq_rule (c := cb2_10) rfl
def cb2_11 : SC := sSeq cb2_9 cb2_10
@[simp] def cb2_11_ap := seq_rule (c := cb2_11) rfl
def cb2_12 : SC := sSeq (sReg (seqI ob2_9)) cb2_11
@[simp] def cb2_12_ap := seq_rule (c := cb2_12) rfl
def cb2_13 : SC := sSeq (sReg (seqI ob2_8)) cb2_12
@[simp] def cb2_13_ap := seq_rule (c := cb2_13) rfl
def cb2_14 : SC := sSeq cb2_6 cb2_13
@[simp] def cb2_14_ap := seq_rule (c := cb2_14) rfl
def cb2_15 : SC := sSeq (sReg (seqI ob2_5)) cb2_14
@[simp] def cb2_15_ap := seq_rule (c := cb2_15) rfl
def cb2_16 : SC := sSeq cb2_3 cb2_15
@[simp] def cb2_16_ap := seq_rule (c := cb2_16) rfl
def cb2_17 : SC := sSeq (sReg (seqI ob2_2)) cb2_16
@[simp] def cb2_17_ap := seq_rule (c := cb2_17) rfl
def cb2_18 : SC := sSeq (sReg (seqI ob2_1)) cb2_17
@[simp] def cb2_18_ap := seq_rule (c := cb2_18) rfl
def db2 : DFn := ⟨cb2_18, 61, [.t 6]⟩
theorem db2_ok : fnOf Tryz.prog 52 = some db2 := by kernel_rfl
def ob3_1 : List IS := [ip 2 (pMov (cv (.int .u64 0)))]
@[simp] def ob3_1_ap := ops_rule (c := ob3_1) rfl
def ob3_2 : List IS := [ip 3 (pMov (tg 0))]
@[simp] def ob3_2_ap := ops_rule (c := ob3_2) rfl
def ob3_3 : List IS := [ip 2 (pMov (cv (.int .u64 1)))]
@[simp] def ob3_3_ap := ops_rule (c := ob3_3) rfl
def cb3_1 : SC := sSeq (sReg (seqI ob3_3)) sRet
@[simp] def cb3_1_ap := seq_rule (c := cb3_1) rfl
def cb3_2 : SC := sCond (tg 3) cb3_1 sSkip
@[simp] def cb3_2_ap := cond_rule (c := cb3_2) rfl
def cb3_3 : SC := sSeq (sReg (seqI ob3_2)) cb3_2
@[simp] def cb3_3_ap := seq_rule (c := cb3_3) rfl
def ob3_4 : List IS := [ip 2 (pMov (cv (.int .u64 0)))]
@[simp] def ob3_4_ap := ops_rule (c := ob3_4) rfl
def cb3_4 : SC := sSeq (sReg (seqI ob3_4)) sRet
@[simp] def cb3_4_ap := seq_rule (c := cb3_4) rfl
def cb3_5 : SC := sSeq cb3_3 cb3_4
@[simp] def cb3_5_ap := seq_rule (c := cb3_5) rfl
def cb3_6 : SC := sSeq (sReg (seqI ob3_1)) cb3_5
@[simp] def cb3_6_ap := seq_rule (c := cb3_6) rfl
def db3 : DFn := ⟨cb3_6, 4, [.t 2]⟩
theorem db3_ok : fnOf Tryz.prog 53 = some db3 := by kernel_rfl
def ob4_1 : List IS := [im 1 3 (mBox (tg 0)),
  im 1 4 (mBox (tg 1)),
  im 1 5 (mBox (tg 2)),
  ip 6 (pMov (cv (.bool false)))]
@[simp] def ob4_1_ap := ops_rule (c := ob4_1) rfl
def ob4_2 : List IS := [ip 8 (pFaddr 0 (tg 3)),
  il 9 (tg 8) (mLoad1 (tg 8)),
  ip 10 (pBin .lss (tg 9) (cv (.int .i64 1))),
  ip 11 (pMov (tg 10)),
  gd 11 false (some 12) (ip 12 (pFaddr 0 (tg 3))),
  gd 11 false (some 13) (il 13 (tg 12) (mLoad1 (tg 12))),
  gd 11 false (some 14) (ip 14 (pBin .gtr (tg 13) (cv (.int .i64 10)))),
  ip 15 (pPick (tg 11) (cv (.bool true)) (tg 14)),
  ip 16 (pMov (tg 15)),
  gd 16 false (some 17) (ip 17 (pFaddr 0 (tg 3))),
  gd 16 false (some 18) (il 18 (tg 17) (mLoad1 (tg 17))),
  gd 16 false (some 19) (ip 19 (pFaddr 7 (tg 3))),
  gd 16 false (some 20) (il 20 (tg 19) (mLoad1 (tg 19))),
  gd 16 false (some 21) (im 3 21 (mCall 105 [(tg 18), (tg 20)])),
  gd 16 false (some 22) (ip 22 (pUn .not (tg 21))),
  ip 23 (pPick (tg 16) (cv (.bool true)) (tg 22))]
@[simp] def ob4_2_ap := ops_rule (c := ob4_2) rfl
def ob4_3 : List IS := [ip 6 (pMov (cv (.bool false)))]
@[simp] def ob4_3_ap := ops_rule (c := ob4_3) rfl
def cb4_1 : SC := sSeq (sReg (seqI ob4_3)) sRet
@[simp] def cb4_1_ap := seq_rule (c := cb4_1) rfl
def cb4_2 : SC := sCond (tg 23) cb4_1 sSkip
@[simp] def cb4_2_ap := cond_rule (c := cb4_2) rfl
def cb4_3 : SC := sSeq (sReg (seqI ob4_2)) cb4_2
@[simp] def cb4_3_ap := seq_rule (c := cb4_3) rfl
def ob4_4 : List IS := [ip 24 (pFaddr 0 (tg 3)),
  il 25 (tg 24) (mLoad1 (tg 24)),
  im 3 26 (mCall 106 [(tg 25)]),
  im 1 7 (mAlloc [(.bool false), (.bool false), (.bool false), (.bool false), (.bool false)]),
  im0 3 (mStore 5 (tg 7) (tg 26))]
@[simp] def ob4_4_ap := ops_rule (c := ob4_4) rfl
def ob4_5 : List IS := [ip 28 (pFaddr 0 (tg 7)),
  il 29 (tg 28) (mLoad1 (tg 28)),
  ip 30 (pMov (tg 29)),
  gd 30 true (some 31) (ip 31 (pFaddr 1 (tg 3))),
  gd 30 true (some 32) (il 32 (tg 31) (mLoad1 (tg 31))),
  gd 30 true (some 33) (ip 33 (pBin .lss (tg 32) (cv (.int .i64 0)))),
  gd 30 true (some 34) (ip 34 (pMov (tg 33))),
  gd 34 false (some 35) (ip 35 (pFaddr 1 (tg 3))),
  gd 34 false (some 36) (il 36 (tg 35) (mLoad1 (tg 35))),
  gd 34 false (some 37) (ip 37 (pFaddr 0 (tg 5))),
  gd 34 false (some 38) (il 38 (tg 37) (mLoad1 (tg 37))),
  gd 34 false (some 39) (ip 39 (pBin .geq (tg 36) (tg 38))),
  gd 30 true (some 40) (ip 40 (pPick (tg 34) (cv (.bool true)) (tg 39))),
  ip 41 (pPick (tg 30) (tg 40) (cv (.bool false))),
  ip 27 (pMov (tg 41))]
@[simp] def ob4_5_ap := ops_rule (c := ob4_5) rfl
def ob4_6 : List IS := [ip 42 (pFaddr 0 (tg 7)),
  il 43 (tg 42) (mLoad1 (tg 42)),
  ip 44 (pUn .not (tg 43)),
  ip 45 (pMov (tg 44)),
  gd 45 true (some 46) (ip 46 (pFaddr 1 (tg 3))),
  gd 45 true (some 47) (il 47 (tg 46) (mLoad1 (tg 46))),
  gd 45 true (some 48) (ip 48 (pBin .neq (tg 47) (cv (.int .i64 0)))),
  ip 49 (pPick (tg 45) (tg 48) (cv (.bool false))),
  ip 27 (pMov (tg 49))]
@[simp] def ob4_6_ap := ops_rule (c := ob4_6) rfl
def cb4_4 : SC := sCond (tg 27) sSkip (sReg (seqI ob4_6))
@[simp] def cb4_4_ap := cond_rule (c := cb4_4) rfl
def cb4_5 : SC := sSeq (sReg (seqI ob4_5)) cb4_4
@[simp] def cb4_5_ap := seq_rule (c := cb4_5) rfl
def ob4_7 : List IS := [ip 6 (pMov (cv (.bool false)))]
@[simp] def ob4_7_ap := ops_rule (c := ob4_7) rfl
def cb4_6 : SC := sSeq (sReg (seqI ob4_7)) sRet
@[simp] def cb4_6_ap := seq_rule (c := cb4_6) rfl
def ob4_8 : List IS := [ip 51 (pFaddr 1 (tg 7)),
  il 52 (tg 51) (mLoad1 (tg 51)),
  ip 53 (pMov (tg 52)),
  gd 53 true (some 54) (il 54 (tg 3) (mLoadN 11 (tg 3))),
  gd 53 true (some 55) (il 55 (tg 4) (mLoadN 2 (tg 4))),
  gd 53 true (some 56) (ip 56 (pFaddr 0 (tg 5))),
  gd 53 true (some 57) (il 57 (tg 56) (mLoad1 (tg 56))),
  gd 53 true (some 58) (im 3 58 (mCall 107 [(tg 54), (tg 55), (tg 57)])),
  gd 53 true (some 59) (ip 59 (pUn .not (tg 58))),
  ip 60 (pPick (tg 53) (tg 59) (cv (.bool false))),
  ip 50 (pMov (tg 60))]
@[simp] def ob4_8_ap := ops_rule (c := ob4_8) rfl
def ob4_9 : List IS := [ip 61 (pFaddr 1 (tg 7)),
  il 62 (tg 61) (mLoad1 (tg 61)),
  ip 63 (pUn .not (tg 62)),
  ip 64 (pMov (tg 63)),
  gd 64 true (some 65) (ip 65 (pFaddr 2 (tg 3))),
  gd 64 true (some 66) (il 66 (tg 65) (mLoad1 (tg 65))),
  gd 64 true (some 67) (ip 67 (pBin .neq (tg 66) (cv (.int .i64 0)))),
  gd 64 true (some 68) (ip 68 (pMov (tg 67))),
  gd 68 false (some 69) (ip 69 (pFaddr 3 (tg 3))),
  gd 68 false (some 70) (il 70 (tg 69) (mLoad1 (tg 69))),
  gd 68 false (some 71) (ip 71 (pBin .neq (tg 70) (cv (.int .i64 0)))),
  gd 64 true (some 72) (ip 72 (pPick (tg 68) (cv (.bool true)) (tg 71))),
  gd 64 true (some 73) (ip 73 (pMov (tg 72))),
  gd 73 false (some 74) (ip 74 (pFaddr 4 (tg 3))),
  gd 73 false (some 75) (il 75 (tg 74) (mLoad1 (tg 74))),
  gd 73 false (some 76) (ip 76 (pLen (tg 75))),
  gd 73 false (some 77) (ip 77 (pBin .gtr (tg 76) (cv (.int .i64 0)))),
  gd 64 true (some 78) (ip 78 (pPick (tg 73) (cv (.bool true)) (tg 77))),
  ip 79 (pPick (tg 64) (tg 78) (cv (.bool false))),
  ip 50 (pMov (tg 79))]
@[simp] def ob4_9_ap := ops_rule (c := ob4_9) rfl
def cb4_7 : SC := sCond (tg 50) sSkip (sReg (seqI ob4_9))
@[simp] def cb4_7_ap := cond_rule (c := cb4_7) rfl
def cb4_8 : SC := sSeq (sReg (seqI ob4_8)) cb4_7
@[simp] def cb4_8_ap := seq_rule (c := cb4_8) rfl
def ob4_10 : List IS := [ip 6 (pMov (cv (.bool false)))]
@[simp] def ob4_10_ap := ops_rule (c := ob4_10) rfl
def cb4_9 : SC := sSeq (sReg (seqI ob4_10)) sRet
@[simp] def cb4_9_ap := seq_rule (c := cb4_9) rfl
def ob4_11 : List IS := [ip 81 (pFaddr 2 (tg 7)),
  il 82 (tg 81) (mLoad1 (tg 81)),
  ip 83 (pFaddr 5 (tg 3)),
  il 84 (tg 83) (mLoad1 (tg 83)),
  ip 85 (pLen (tg 84)),
  ip 86 (pBin .gtr (tg 85) (cv (.int .i64 0))),
  ip 87 (pEqB true (tg 82) (tg 86)),
  ip 80 (pMov (tg 87))]
@[simp] def ob4_11_ap := ops_rule (c := ob4_11) rfl
def ob4_12 : List IS := [ip 88 (pFaddr 3 (tg 7)),
  il 89 (tg 88) (mLoad1 (tg 88)),
  ip 90 (pFaddr 6 (tg 3)),
  il 91 (tg 90) (mLoad1 (tg 90)),
  ip 92 (pLen (tg 91)),
  ip 93 (pBin .gtr (tg 92) (cv (.int .i64 0))),
  ip 94 (pEqB true (tg 89) (tg 93)),
  ip 80 (pMov (tg 94))]
@[simp] def ob4_12_ap := ops_rule (c := ob4_12) rfl
def ob4_13 : List IS := [ip 95 (pFaddr 2 (tg 7)),
  il 96 (tg 95) (mLoad1 (tg 95)),
  ip 97 (pMov (tg 96)),
  gd 97 true (some 98) (ip 98 (pFaddr 5 (tg 3))),
  gd 97 true (some 99) (il 99 (tg 98) (mLoad1 (tg 98))),
  gd 97 true (some 100) (ip 100 (pFaddr 0 (tg 5))),
  gd 97 true (some 101) (il 101 (tg 100) (mLoad1 (tg 100))),
  gd 97 true (some 102) (im 3 102 (mCall 108 [(tg 99), (tg 101)])),
  gd 97 true (some 103) (ip 103 (pUn .not (tg 102))),
  ip 104 (pPick (tg 97) (tg 103) (cv (.bool false))),
  ip 80 (pMov (tg 104))]
@[simp] def ob4_13_ap := ops_rule (c := ob4_13) rfl
def ob4_14 : List IS := [ip 105 (pFaddr 3 (tg 7)),
  il 106 (tg 105) (mLoad1 (tg 105)),
  ip 107 (pMov (tg 106)),
  gd 107 true (some 108) (ip 108 (pFaddr 6 (tg 3))),
  gd 107 true (some 109) (il 109 (tg 108) (mLoad1 (tg 108))),
  gd 107 true (some 110) (ip 110 (pFaddr 0 (tg 5))),
  gd 107 true (some 111) (il 111 (tg 110) (mLoad1 (tg 110))),
  gd 107 true (some 112) (im 3 112 (mCall 108 [(tg 109), (tg 111)])),
  gd 107 true (some 113) (ip 113 (pUn .not (tg 112))),
  ip 114 (pPick (tg 107) (tg 113) (cv (.bool false))),
  ip 80 (pMov (tg 114))]
@[simp] def ob4_14_ap := ops_rule (c := ob4_14) rfl
def cb4_10 : SC := sCond (tg 80) sSkip (sReg (seqI ob4_14))
@[simp] def cb4_10_ap := cond_rule (c := cb4_10) rfl
def cb4_11 : SC := sSeq (sReg (seqI ob4_13)) cb4_10
@[simp] def cb4_11_ap := seq_rule (c := cb4_11) rfl
def cb4_12 : SC := sCond (tg 80) sSkip cb4_11
@[simp] def cb4_12_ap := cond_rule (c := cb4_12) rfl
def cb4_13 : SC := sSeq (sReg (seqI ob4_12)) cb4_12
@[simp] def cb4_13_ap := seq_rule (c := cb4_13) rfl
def cb4_14 : SC := sCond (tg 80) sSkip cb4_13
@[simp] def cb4_14_ap := cond_rule (c := cb4_14) rfl
def cb4_15 : SC := sSeq (sReg (seqI ob4_11)) cb4_14
@[simp] def cb4_15_ap := seq_rule (c := cb4_15) rfl
def ob4_15 : List IS := [ip 6 (pMov (cv (.bool false)))]
@[simp] def ob4_15_ap := ops_rule (c := ob4_15) rfl
def cb4_16 : SC := sSeq (sReg (seqI ob4_15)) sRet
@[simp] def cb4_16_ap := seq_rule (c := cb4_16) rfl
def ob4_16 : List IS := [ip 116 (pFaddr 4 (tg 7)),
  il 117 (tg 116) (mLoad1 (tg 116)),
  ip 118 (pMov (tg 117)),
  gd 118 true (some 119) (ip 119 (pFaddr 8 (tg 3))),
  gd 118 true (some 120) (il 120 (tg 119) (mLoad1 (tg 119))),
  gd 118 true (some 121) (ip 121 (pBin .lss (tg 120) (cv (.int .i64 0)))),
  gd 118 true (some 122) (ip 122 (pMov (tg 121))),
  gd 122 false (some 123) (ip 123 (pFaddr 8 (tg 3))),
  gd 122 false (some 124) (il 124 (tg 123) (mLoad1 (tg 123))),
  gd 122 false (some 125) (ip 125 (pFaddr 1 (tg 5))),
  gd 122 false (some 126) (il 126 (tg 125) (mLoad1 (tg 125))),
  gd 122 false (some 127) (ip 127 (pLen (tg 126))),
  gd 122 false (some 128) (ip 128 (pBin .gtr (tg 124) (tg 127))),
  gd 118 true (some 129) (ip 129 (pPick (tg 122) (cv (.bool true)) (tg 128))),
  ip 130 (pPick (tg 118) (tg 129) (cv (.bool false))),
  ip 115 (pMov (tg 130))]
@[simp] def ob4_16_ap := ops_rule (c := ob4_16) rfl
def ob4_17 : List IS := [ip 131 (pFaddr 4 (tg 7)),
  il 132 (tg 131) (mLoad1 (tg 131)),
  ip 133 (pUn .not (tg 132)),
  ip 134 (pMov (tg 133)),
  gd 134 true (some 135) (ip 135 (pFaddr 8 (tg 3))),
  gd 134 true (some 136) (il 136 (tg 135) (mLoad1 (tg 135))),
  gd 134 true (some 137) (ip 137 (pBin .neq (tg 136) (cv (.int .i64 0)))),
  ip 138 (pPick (tg 134) (tg 137) (cv (.bool false))),
  ip 115 (pMov (tg 138))]
@[simp] def ob4_17_ap := ops_rule (c := ob4_17) rfl
def cb4_17 : SC := sCond (tg 115) sSkip (sReg (seqI ob4_17))
@[simp] def cb4_17_ap := cond_rule (c := cb4_17) rfl
def cb4_18 : SC := sSeq (sReg (seqI ob4_16)) cb4_17
@[simp] def cb4_18_ap := seq_rule (c := cb4_18) rfl
def ob4_18 : List IS := [ip 6 (pMov (cv (.bool false)))]
@[simp] def ob4_18_ap := ops_rule (c := ob4_18) rfl
def cb4_19 : SC := sSeq (sReg (seqI ob4_18)) sRet
@[simp] def cb4_19_ap := seq_rule (c := cb4_19) rfl
def cb4_20 : SC := sCond (tg 115) cb4_19 sSkip
@[simp] def cb4_20_ap := cond_rule (c := cb4_20) rfl
def cb4_21 : SC := sSeq cb4_18 cb4_20
@[simp] def cb4_21_ap := seq_rule (c := cb4_21) rfl
def cb4_22 : SC := sCond (tg 80) cb4_16 cb4_21
@[simp] def cb4_22_ap := cond_rule (c := cb4_22) rfl
def cb4_23 : SC := sSeq cb4_15 cb4_22
@[simp] def cb4_23_ap := seq_rule (c := cb4_23) rfl
def cb4_24 : SC := sCond (tg 50) cb4_9 cb4_23
@[simp] def cb4_24_ap := cond_rule (c := cb4_24) rfl
def cb4_25 : SC := sSeq cb4_8 cb4_24
@[simp] def cb4_25_ap := seq_rule (c := cb4_25) rfl
def cb4_26 : SC := sCond (tg 27) cb4_6 cb4_25
@[simp] def cb4_26_ap := cond_rule (c := cb4_26) rfl
def cb4_27 : SC := sSeq cb4_5 cb4_26
@[simp] def cb4_27_ap := seq_rule (c := cb4_27) rfl
def cb4_28 : SC := sBlock 0 cb4_27
@[simp] def cb4_28_ap := block_rule (c := cb4_28) rfl
def ob4_19 : List IS := [ip 6 (pMov (cv (.bool true)))]
@[simp] def ob4_19_ap := ops_rule (c := ob4_19) rfl
def cb4_29 : SC := sSeq (sReg (seqI ob4_19)) sRet
@[simp] def cb4_29_ap := seq_rule (c := cb4_29) rfl
def cb4_30 : SC := sSeq cb4_28 cb4_29
@[simp] def cb4_30_ap := seq_rule (c := cb4_30) rfl
def cb4_31 : SC := sSeq (sReg (seqI ob4_4)) cb4_30
@[simp] def cb4_31_ap := seq_rule (c := cb4_31) rfl
def cb4_32 : SC := sSeq cb4_3 cb4_31
@[simp] def cb4_32_ap := seq_rule (c := cb4_32) rfl
def cb4_33 : SC := sSeq (sReg (seqI ob4_1)) cb4_32
@[simp] def cb4_33_ap := seq_rule (c := cb4_33) rfl
def db4 : DFn := ⟨cb4_33, 139, [.t 6]⟩
theorem db4_ok : fnOf Tryz.prog 61 = some db4 := by kernel_rfl
def ob5_1 : List IS := [ip 2 (pMov (cv (.slice none 0 0)))]
@[simp] def ob5_1_ap := ops_rule (c := ob5_1) rfl
def ob5_2 : List IS := [ip 3 (pMov (tg 0)),
  ip 4 (pEqN false nilS true (tg 3) (cv (.slice none 0 0)))]
@[simp] def ob5_2_ap := ops_rule (c := ob5_2) rfl
def ob5_3 : List IS := [ip 2 (pMov (cv (.slice none 0 0)))]
@[simp] def ob5_3_ap := ops_rule (c := ob5_3) rfl
def cb5_1 : SC := sSeq (sReg (seqI ob5_3)) sRet
@[simp] def cb5_1_ap := seq_rule (c := cb5_1) rfl
def cb5_2 : SC := sCond (tg 4) cb5_1 sSkip
@[simp] def cb5_2_ap := cond_rule (c := cb5_2) rfl
def cb5_3 : SC := sSeq (sReg (seqI ob5_2)) cb5_2
@[simp] def cb5_3_ap := seq_rule (c := cb5_3) rfl
def ob5_4 : List IS := [im 1 5 (mBslice 4 0 (rep 0 [(.int .i64 0), (.int .u64 0), (.int .i64 0), (.int .i64 0)]) []),
  ip 6 (pMov (tg 0)),
  im 3 7 (mAppend 4 32 (tg 5) (tg 6)),
  ip 2 (pMov (tg 7))]
@[simp] def ob5_4_ap := ops_rule (c := ob5_4) rfl
def cb5_4 : SC := sSeq (sReg (seqI ob5_4)) sRet
@[simp] def cb5_4_ap := seq_rule (c := cb5_4) rfl
def cb5_5 : SC := sSeq cb5_3 cb5_4
@[simp] def cb5_5_ap := seq_rule (c := cb5_5) rfl
def cb5_6 : SC := sSeq (sReg (seqI ob5_1)) cb5_5
@[simp] def cb5_6_ap := seq_rule (c := cb5_6) rfl
def db5 : DFn := ⟨cb5_6, 8, [.t 2]⟩
theorem db5_ok : fnOf Tryz.prog 97 = some db5 := by kernel_rfl
def ob6_1 : List IS := [ip 4 (pMov (cv (.bool false)))]
@[simp] def ob6_1_ap := ops_rule (c := ob6_1) rfl
def ob6_2 : List IS := [ip 5 (pMov (tg 0)),
  ip 6 (pMov (tg 1)),
  im 3 7 (mCall 150 [(tg 5), (tg 6)]),
  ip 8 (pBin .geq (tg 7) (cv (.int .i64 0))),
  ip 4 (pMov (tg 8))]
@[simp] def ob6_2_ap := ops_rule (c := ob6_2) rfl
def cb6_1 : SC := sSeq (sReg (seqI ob6_2)) sRet
@[simp] def cb6_1_ap := seq_rule (c := cb6_1) rfl
def cb6_2 : SC := sSeq (sReg (seqI ob6_1)) cb6_1
@[simp] def cb6_2_ap := seq_rule (c := cb6_2) rfl
def db6 : DFn := ⟨cb6_2, 9, [.t 4]⟩
theorem db6_ok : fnOf Tryz.prog 98 = some db6 := by kernel_rfl
def ob7_1 : List IS := [im 1 1 (mBox (tg 0)),
  ip 2 (pMov (cv (.bool false)))]
@[simp] def ob7_1_ap := ops_rule (c := ob7_1) rfl
def ob7_2 : List IS := [ip 3 (pFaddr 0 (tg 1)),
  il 4 (tg 3) (mLoad1 (tg 3)),
  ip 5 (pBin .neq (tg 4) (cv (.int .i64 1))),
  ip 2 (pMov (tg 5))]
@[simp] def ob7_2_ap := ops_rule (c := ob7_2) rfl
def cb7_1 : SC := sSeq (sReg (seqI ob7_2)) sRet
@[simp] def cb7_1_ap := seq_rule (c := cb7_1) rfl
def cb7_2 : SC := sSeq (sReg (seqI ob7_1)) cb7_1
@[simp] def cb7_2_ap := seq_rule (c := cb7_2) rfl
def db7 : DFn := ⟨cb7_2, 6, [.t 2]⟩
theorem db7_ok : fnOf Tryz.prog 99 = some db7 := by kernel_rfl
def ob8_1 : List IS := [ip 4 (pMov (cv (.int .u64 0))),
  ip 5 (pMov (cv (.int .i64 0)))]
@[simp] def ob8_1_ap := ops_rule (c := ob8_1) rfl
def ob8_2 : List IS := [ip 6 (pMov (tg 1)),
  ip 7 (pLen (tg 6)),
  ip 8 (pBin .gtr (tg 7) (cv (.int .i64 24))),
  ip 9 (pMov (tg 8)),
  gd 9 false (some 10) (ip 10 (pMov (tg 1))),
  gd 9 false (some 11) (ip 11 (pLen (tg 10))),
  gd 9 false (some 12) (ip 12 (pMov (tg 0))),
  gd 9 false (some 13) (ip 13 (pBuild [(.int .i64 0), (.int .i64 0), (.int .i64 0), (.int .i64 0), (.slice none 0 0), (.slice none 0 0), (.slice none 0 0), (.int .i64 0), (.int .i64 0), (.int .i64 0), (.int .i64 0)] [(0, 1, (cv (.int .i64 8))), (5, 1, (tg 12))])),
  gd 9 false (some 14) (im 1 14 (mBslice 11 1 (rep 1 [(.int .i64 0), (.int .i64 0), (.int .i64 0), (.int .i64 0), (.slice none 0 0), (.slice none 0 0), (.slice none 0 0), (.int .i64 0), (.int .i64 0), (.int .i64 0), (.int .i64 0)]) [(0, 11, (tg 13))])),
  gd 9 false (some 15) (ip 15 (pBuild [(.int .i64 0), (.slice none 0 0)] [(0, 1, (tg 11)), (1, 1, (tg 14))])),
  gd 9 false (some 16) (im 1 16 (mBslice 2 1 (rep 1 [(.int .i64 0), (.slice none 0 0)]) [(0, 2, (tg 15))])),
  gd 9 false (some 17) (ip 17 (pBuild [(.int .i64 0), (.slice none 0 0)] [(1, 1, (tg 16))])),
  gd 9 false (some 18) (im 3 18 (mCall 33 [(tg 17)])),
  gd 9 false (some 19) (ip 19 (pUn .not (tg 18))),
  ip 20 (pPick (tg 9) (cv (.bool true)) (tg 19))]
@[simp] def ob8_2_ap := ops_rule (c := ob8_2) rfl
def ob8_3 : List IS := [ip 4 (pMov (cv (.int .u64 0))),
  ip 5 (pMov (cv (.int .i64 1)))]
@[simp] def ob8_3_ap := ops_rule (c := ob8_3) rfl
def cb8_1 : SC := sSeq (sReg (seqI ob8_3)) sRet
@[simp] def cb8_1_ap := seq_rule (c := cb8_1) rfl
def cb8_2 : SC := sCond (tg 20) cb8_1 sSkip
@[simp] def cb8_2_ap := cond_rule (c := cb8_2) rfl
def cb8_3 : SC := sSeq (sReg (seqI ob8_2)) cb8_2
@[simp] def cb8_3_ap := seq_rule (c := cb8_3) rfl
def ob8_4 : List IS := [ip 21 (pMov (tg 0)),
  ip 22 (pMov (tg 1)),
  im 3 23 (mCall 151 [(tg 21), (tg 22)]),
  ip 4 (pMov (tg 23)),
  ip 5 (pMov (cv (.int .i64 0)))]
@[simp] def ob8_4_ap := ops_rule (c := ob8_4) rfl
def cb8_4 : SC := sSeq (sReg (seqI ob8_4)) sRet
@[simp] def cb8_4_ap := seq_rule (c := cb8_4) rfl
def cb8_5 : SC := sSeq cb8_3 cb8_4
@[simp] def cb8_5_ap := seq_rule (c := cb8_5) rfl
def cb8_6 : SC := sSeq (sReg (seqI ob8_1)) cb8_5
@[simp] def cb8_6_ap := seq_rule (c := cb8_6) rfl
def db8 : DFn := ⟨cb8_6, 24, [.t 4, .t 5]⟩
theorem db8_ok : fnOf Tryz.prog 100 = some db8 := by kernel_rfl
def ob9_1 : List IS := [ip 4 (pMov (cv (.int .u64 0))),
  ip 5 (pMov (cv (.bool false)))]
@[simp] def ob9_1_ap := ops_rule (c := ob9_1) rfl
def ob9_2 : List IS := [ip 12 (pMov (tg 0)),
  ip 13 (pMov (tg 1)),
  ip 14 (pIaddrS 4 (tg 12) (tg 13)),
  il 15 (tg 14) (mLoadN 4 (tg 14)),
  im 1 6 (mAlloc [(.int .i64 0), (.int .u64 0), (.int .i64 0), (.int .i64 0)]),
  im0 3 (mStore 4 (tg 6) (tg 15))]
@[simp] def ob9_2_ap := ops_rule (c := ob9_2) rfl
def ob9_3 : List IS := [ip 16 (pFaddr 0 (tg 6)),
  il 17 (tg 16) (mLoad1 (tg 16)),
  ip 18 (pBin .eql (tg 17) (cv (.int .i64 1)))]
@[simp] def ob9_3_ap := ops_rule (c := ob9_3) rfl
def ob9_4 : List IS := [ip 19 (pFaddr 1 (tg 6)),
  il 20 (tg 19) (mLoad1 (tg 19)),
  ip 4 (pMov (tg 20)),
  ip 5 (pMov (cv (.bool true)))]
@[simp] def ob9_4_ap := ops_rule (c := ob9_4) rfl
def cb9_1 : SC := sSeq (sReg (seqI ob9_4)) sRet
@[simp] def cb9_1_ap := seq_rule (c := cb9_1) rfl
def cb9_2 : SC := sCond (tg 18) cb9_1 sSkip
@[simp] def cb9_2_ap := cond_rule (c := cb9_2) rfl
def cb9_3 : SC := sSeq (sReg (seqI ob9_3)) cb9_2
@[simp] def cb9_3_ap := seq_rule (c := cb9_3) rfl
def ob9_5 : List IS := [ip 21 (pFaddr 0 (tg 6)),
  il 22 (tg 21) (mLoad1 (tg 21)),
  ip 23 (pBin .eql (tg 22) (cv (.int .i64 2)))]
@[simp] def ob9_5_ap := ops_rule (c := ob9_5) rfl
def ob9_6 : List IS := [ip 4 (pMov (cv (.int .u64 0))),
  ip 5 (pMov (cv (.bool false)))]
@[simp] def ob9_6_ap := ops_rule (c := ob9_6) rfl
def cb9_4 : SC := sSeq (sReg (seqI ob9_6)) sRet
@[simp] def cb9_4_ap := seq_rule (c := cb9_4) rfl
def cb9_5 : SC := sCond (tg 23) cb9_4 sSkip
@[simp] def cb9_5_ap := cond_rule (c := cb9_5) rfl
def cb9_6 : SC := sSeq (sReg (seqI ob9_5)) cb9_5
@[simp] def cb9_6_ap := seq_rule (c := cb9_6) rfl
def ob9_7 : List IS := [ip 25 (pMov (tg 0)),
  ip 26 (pFaddr 2 (tg 6)),
  il 27 (tg 26) (mLoad1 (tg 26)),
  im 3 28 (mCall 101 [(tg 25), (tg 27)]),
  ip 24 (pMov (tg 28)),
  ip 29 (pExtract (tg 24) 0),
  ip 30 (pExtract (tg 24) 1),
  ip 7 (pMov (tg 29)),
  ip 8 (pMov (tg 30))]
@[simp] def ob9_7_ap := ops_rule (c := ob9_7) rfl
def ob9_8 : List IS := [ip 31 (pMov (tg 8)),
  ip 32 (pUn .not (tg 31))]
@[simp] def ob9_8_ap := ops_rule (c := ob9_8) rfl
def ob9_9 : List IS := [ip 4 (pMov (cv (.int .u64 0))),
  ip 5 (pMov (cv (.bool false)))]
@[simp] def ob9_9_ap := ops_rule (c := ob9_9) rfl
def cb9_7 : SC := sSeq (sReg (seqI ob9_9)) sRet
@[simp] def cb9_7_ap := seq_rule (c := cb9_7) rfl
def cb9_8 : SC := sCond (tg 32) cb9_7 sSkip
@[simp] def cb9_8_ap := cond_rule (c := cb9_8) rfl
def cb9_9 : SC := sSeq (sReg (seqI ob9_8)) cb9_8
@[simp] def cb9_9_ap := seq_rule (c := cb9_9) rfl
def ob9_10 : List IS := [ip 33 (pMov (tg 7)),
  ip 34 (pBuild [(.int .i64 0), (.int .u64 0), (.int .i64 0), (.int .i64 0)] [(0, 1, (cv (.int .i64 1))), (1, 1, (tg 33))]),
  ip 35 (pFaddr 0 (tg 6)),
  il 36 (tg 35) (mLoad1 (tg 35)),
  ip 37 (pBuild [(.int .i64 0), (.int .u64 0), (.int .i64 0), (.int .i64 0)] [(0, 1, (tg 36))]),
  im 1 38 (mBslice 4 2 (rep 2 [(.int .i64 0), (.int .u64 0), (.int .i64 0), (.int .i64 0)]) [(0, 4, (tg 34)), (4, 4, (tg 37))]),
  ip 9 (pMov (tg 38))]
@[simp] def ob9_10_ap := ops_rule (c := ob9_10) rfl
def ob9_11 : List IS := [ip 39 (pFaddr 0 (tg 6)),
  il 40 (tg 39) (mLoad1 (tg 39)),
  ip 41 (pBin .geq (tg 40) (cv (.int .i64 6)))]
@[simp] def ob9_11_ap := ops_rule (c := ob9_11) rfl
def ob9_12 : List IS := [ip 43 (pMov (tg 0)),
  ip 44 (pFaddr 3 (tg 6)),
  il 45 (tg 44) (mLoad1 (tg 44)),
  im 3 46 (mCall 101 [(tg 43), (tg 45)]),
  ip 42 (pMov (tg 46)),
  ip 47 (pExtract (tg 42) 0),
  ip 48 (pExtract (tg 42) 1),
  ip 10 (pMov (tg 47)),
  ip 11 (pMov (tg 48))]
@[simp] def ob9_12_ap := ops_rule (c := ob9_12) rfl
def ob9_13 : List IS := [ip 49 (pMov (tg 11)),
  ip 50 (pUn .not (tg 49))]
@[simp] def ob9_13_ap := ops_rule (c := ob9_13) rfl
def ob9_14 : List IS := [ip 4 (pMov (cv (.int .u64 0))),
  ip 5 (pMov (cv (.bool false)))]
@[simp] def ob9_14_ap := ops_rule (c := ob9_14) rfl
def cb9_10 : SC := sSeq (sReg (seqI ob9_14)) sRet
@[simp] def cb9_10_ap := seq_rule (c := cb9_10) rfl
def cb9_11 : SC := sCond (tg 50) cb9_10 sSkip
@[simp] def cb9_11_ap := cond_rule (c := cb9_11) rfl
def cb9_12 : SC := sSeq (sReg (seqI ob9_13)) cb9_11
@[simp] def cb9_12_ap := seq_rule (c := cb9_12) rfl
def ob9_15 : List IS := [ip 51 (pMov (tg 7)),
  ip 52 (pBuild [(.int .i64 0), (.int .u64 0), (.int .i64 0), (.int .i64 0)] [(0, 1, (cv (.int .i64 1))), (1, 1, (tg 51))]),
  ip 53 (pMov (tg 10)),
  ip 54 (pBuild [(.int .i64 0), (.int .u64 0), (.int .i64 0), (.int .i64 0)] [(0, 1, (cv (.int .i64 1))), (1, 1, (tg 53))]),
  ip 55 (pFaddr 0 (tg 6)),
  il 56 (tg 55) (mLoad1 (tg 55)),
  ip 57 (pBuild [(.int .i64 0), (.int .u64 0), (.int .i64 0), (.int .i64 0)] [(0, 1, (tg 56)), (2, 1, (cv (.int .i64 0))), (3, 1, (cv (.int .i64 1)))]),
  im 1 58 (mBslice 4 3 (rep 3 [(.int .i64 0), (.int .u64 0), (.int .i64 0), (.int .i64 0)]) [(0, 4, (tg 52)), (4, 4, (tg 54)), (8, 4, (tg 57))]),
  ip 9 (pMov (tg 58))]
@[simp] def ob9_15_ap := ops_rule (c := ob9_15) rfl
def cb9_13 : SC := sSeq cb9_12 (sReg (seqI ob9_15))
@[simp] def cb9_13_ap := seq_rule (c := cb9_13) rfl
def cb9_14 : SC := sSeq (sReg (seqI ob9_12)) cb9_13
@[simp] def cb9_14_ap := seq_rule (c := cb9_14) rfl
def cb9_15 : SC := sCond (tg 41) cb9_14 sSkip
@[simp] def cb9_15_ap := cond_rule (c := cb9_15) rfl
def cb9_16 : SC := sSeq (sReg (seqI ob9_11)) cb9_15
@[simp] def cb9_16_ap := seq_rule (c := cb9_16) rfl
def ob9_16 : List IS := [ip 59 (pMov (tg 9)),
  im 3 60 (mCall 10 [(tg 59), (cv (.slice none 0 0))]),
  ip 4 (pMov (tg 60)),
  ip 5 (pMov (cv (.bool true)))]
@[simp] def ob9_16_ap := ops_rule (c := ob9_16) rfl
def cb9_17 : SC := sSeq (sReg (seqI ob9_16)) sRet
@[simp] def cb9_17_ap := seq_rule (c := cb9_17) rfl
def cb9_18 : SC := sSeq cb9_16 cb9_17
@[simp] def cb9_18_ap := seq_rule (c := cb9_18) rfl
def cb9_19 : SC := sSeq (sReg (seqI ob9_10)) cb9_18
@[simp] def cb9_19_ap := seq_rule (c := cb9_19) rfl
def cb9_20 : SC := sSeq cb9_9 cb9_19
@[simp] def cb9_20_ap := seq_rule (c := cb9_20) rfl
def cb9_21 : SC := sSeq (sReg (seqI ob9_7)) cb9_20
@[simp] def cb9_21_ap := seq_rule (c := cb9_21) rfl
def cb9_22 : SC := sSeq cb9_6 cb9_21
@[simp] def cb9_22_ap := seq_rule (c := cb9_22) rfl
def cb9_23 : SC := sSeq cb9_3 cb9_22
@[simp] def cb9_23_ap := seq_rule (c := cb9_23) rfl
def cb9_24 : SC := sSeq (sReg (seqI ob9_2)) cb9_23
@[simp] def cb9_24_ap := seq_rule (c := cb9_24) rfl
def cb9_25 : SC := sSeq (sReg (seqI ob9_1)) cb9_24
@[simp] def cb9_25_ap := seq_rule (c := cb9_25) rfl
def db9 : DFn := ⟨cb9_25, 61, [.t 4, .t 5]⟩
theorem db9_ok : fnOf Tryz.prog 101 = some db9 := by kernel_rfl
def oc0_1 : List IS := [ip 4 (pMov (cv (.bool false)))]
@[simp] def oc0_1_ap := ops_rule (c := oc0_1) rfl
def oc0_2 : List IS := [ip 5 (pMov (tg 0))]
@[simp] def oc0_2_ap := ops_rule (c := oc0_2) rfl
def oc0_3 : List IS := [ip 7 (pBin .eql (tg 5) (cv (.int .i64 2))),
  ip 6 (pMov (tg 7))]
@[simp] def oc0_3_ap := ops_rule (c := oc0_3) rfl
def oc0_4 : List IS := [ip 8 (pMov (tg 1)),
  ip 9 (pBin .eql (tg 8) (cv (.int .i64 1))),
  ip 10 (pMov (tg 9)),
  gd 10 false (some 11) (ip 11 (pMov (tg 1))),
  gd 10 false (some 12) (ip 12 (pBin .eql (tg 11) (cv (.int .i64 2)))),
  ip 13 (pPick (tg 10) (cv (.bool true)) (tg 12)),
  ip 14 (pMov (tg 13)),
  gd 14 false (some 15) (ip 15 (pMov (tg 1))),
  gd 14 false (some 16) (ip 16 (pBin .eql (tg 15) (cv (.int .i64 5)))),
  ip 17 (pPick (tg 14) (cv (.bool true)) (tg 16)),
  ip 4 (pMov (tg 17))]
@[simp] def oc0_4_ap := ops_rule (c := oc0_4) rfl
def cc0_1 : SC := sSeq (sReg (seqI oc0_4)) sRet
@[simp] def cc0_1_ap := seq_rule (c := cc0_1) rfl
def oc0_5 : List IS := [ip 19 (pBin .eql (tg 5) (cv (.int .i64 3))),
  ip 18 (pMov (tg 19))]
@[simp] def oc0_5_ap := ops_rule (c := oc0_5) rfl
def oc0_6 : List IS := [ip 20 (pMov (tg 1)),
  ip 21 (pBin .eql (tg 20) (cv (.int .i64 1))),
  ip 22 (pMov (tg 21)),
  gd 22 false (some 23) (ip 23 (pMov (tg 1))),
  gd 22 false (some 24) (ip 24 (pBin .eql (tg 23) (cv (.int .i64 3)))),
  ip 25 (pPick (tg 22) (cv (.bool true)) (tg 24)),
  ip 26 (pMov (tg 25)),
  gd 26 false (some 27) (ip 27 (pMov (tg 1))),
  gd 26 false (some 28) (ip 28 (pBin .eql (tg 27) (cv (.int .i64 5)))),
  ip 29 (pPick (tg 26) (cv (.bool true)) (tg 28)),
  ip 4 (pMov (tg 29))]
@[simp] def oc0_6_ap := ops_rule (c := oc0_6) rfl
def cc0_2 : SC := sSeq (sReg (seqI oc0_6)) sRet
@[simp] def cc0_2_ap := seq_rule (c := cc0_2) rfl
def oc0_7 : List IS := [ip 31 (pBin .eql (tg 5) (cv (.int .i64 4))),
  ip 30 (pMov (tg 31))]
@[simp] def oc0_7_ap := ops_rule (c := oc0_7) rfl
def oc0_8 : List IS := [ip 32 (pBin .eql (tg 5) (cv (.int .i64 5))),
  ip 30 (pMov (tg 32))]
@[simp] def oc0_8_ap := ops_rule (c := oc0_8) rfl
def oc0_9 : List IS := [ip 33 (pBin .eql (tg 5) (cv (.int .i64 6))),
  ip 30 (pMov (tg 33))]
@[simp] def oc0_9_ap := ops_rule (c := oc0_9) rfl
def cc0_3 : SC := sCond (tg 30) sSkip (sReg (seqI oc0_9))
@[simp] def cc0_3_ap := cond_rule (c := cc0_3) rfl
def cc0_4 : SC := sSeq (sReg (seqI oc0_8)) cc0_3
@[simp] def cc0_4_ap := seq_rule (c := cc0_4) rfl
def cc0_5 : SC := sCond (tg 30) sSkip cc0_4
@[simp] def cc0_5_ap := cond_rule (c := cc0_5) rfl
def cc0_6 : SC := sSeq (sReg (seqI oc0_7)) cc0_5
@[simp] def cc0_6_ap := seq_rule (c := cc0_6) rfl
def oc0_10 : List IS := [ip 34 (pMov (tg 1)),
  ip 35 (pBin .geq (tg 34) (cv (.int .i64 1))),
  ip 36 (pMov (tg 35)),
  gd 36 true (some 37) (ip 37 (pMov (tg 1))),
  gd 36 true (some 38) (ip 38 (pBin .leq (tg 37) (cv (.int .i64 5)))),
  ip 39 (pPick (tg 36) (tg 38) (cv (.bool false))),
  ip 4 (pMov (tg 39))]
@[simp] def oc0_10_ap := ops_rule (c := oc0_10) rfl
def cc0_7 : SC := sSeq (sReg (seqI oc0_10)) sRet
@[simp] def cc0_7_ap := seq_rule (c := cc0_7) rfl
def oc0_11 : List IS := [ip 41 (pBin .eql (tg 5) (cv (.int .i64 7))),
  ip 40 (pMov (tg 41))]
@[simp] def oc0_11_ap := ops_rule (c := oc0_11) rfl
def oc0_12 : List IS := [ip 42 (pMov (tg 1)),
  ip 43 (pBin .geq (tg 42) (cv (.int .i64 2))),
  ip 44 (pMov (tg 43)),
  gd 44 true (some 45) (ip 45 (pMov (tg 1))),
  gd 44 true (some 46) (ip 46 (pBin .leq (tg 45) (cv (.int .i64 5)))),
  ip 47 (pPick (tg 44) (tg 46) (cv (.bool false))),
  ip 4 (pMov (tg 47))]
@[simp] def oc0_12_ap := ops_rule (c := oc0_12) rfl
def cc0_8 : SC := sSeq (sReg (seqI oc0_12)) sRet
@[simp] def cc0_8_ap := seq_rule (c := cc0_8) rfl
def cc0_9 : SC := sCond (tg 40) cc0_8 sSkip
@[simp] def cc0_9_ap := cond_rule (c := cc0_9) rfl
def cc0_10 : SC := sSeq (sReg (seqI oc0_11)) cc0_9
@[simp] def cc0_10_ap := seq_rule (c := cc0_10) rfl
def cc0_11 : SC := sCond (tg 30) cc0_7 cc0_10
@[simp] def cc0_11_ap := cond_rule (c := cc0_11) rfl
def cc0_12 : SC := sSeq cc0_6 cc0_11
@[simp] def cc0_12_ap := seq_rule (c := cc0_12) rfl
def cc0_13 : SC := sCond (tg 18) cc0_2 cc0_12
@[simp] def cc0_13_ap := cond_rule (c := cc0_13) rfl
def cc0_14 : SC := sSeq (sReg (seqI oc0_5)) cc0_13
@[simp] def cc0_14_ap := seq_rule (c := cc0_14) rfl
def cc0_15 : SC := sCond (tg 6) cc0_1 cc0_14
@[simp] def cc0_15_ap := cond_rule (c := cc0_15) rfl
def cc0_16 : SC := sSeq (sReg (seqI oc0_3)) cc0_15
@[simp] def cc0_16_ap := seq_rule (c := cc0_16) rfl
def cc0_17 : SC := sBlock 0 cc0_16
@[simp] def cc0_17_ap := block_rule (c := cc0_17) rfl
def cc0_18 : SC := sSeq (sReg (seqI oc0_2)) cc0_17
@[simp] def cc0_18_ap := seq_rule (c := cc0_18) rfl
def oc0_13 : List IS := [ip 48 (pMov (tg 1)),
  ip 49 (pBin .eql (tg 48) (cv (.int .i64 0))),
  ip 4 (pMov (tg 49))]
@[simp] def oc0_13_ap := ops_rule (c := oc0_13) rfl
def cc0_19 : SC := sSeq (sReg (seqI oc0_13)) sRet
@[simp] def cc0_19_ap := seq_rule (c := cc0_19) rfl
def cc0_20 : SC := sSeq cc0_18 cc0_19
@[simp] def cc0_20_ap := seq_rule (c := cc0_20) rfl
def cc0_21 : SC := sSeq (sReg (seqI oc0_1)) cc0_20
@[simp] def cc0_21_ap := seq_rule (c := cc0_21) rfl
def dc0 : DFn := ⟨cc0_21, 50, [.t 4]⟩
theorem dc0_ok : fnOf Tryz.prog 105 = some dc0 := by kernel_rfl
def oc1_1 : List IS := [im 1 2 (mAlloc [(.bool false), (.bool false), (.bool false), (.bool false), (.bool false)])]
@[simp] def oc1_1_ap := ops_rule (c := oc1_1) rfl
def oc1_2 : List IS := [ip 3 (pBuild [(.bool false), (.bool false), (.bool false), (.bool false), (.bool false)] [(0, 1, (cv (.bool true))), (2, 1, (cv (.bool true)))]),
  ip 4 (pBuild [(.bool false), (.bool false), (.bool false), (.bool false), (.bool false)] [(0, 1, (cv (.bool true))), (1, 1, (cv (.bool true)))]),
  ip 5 (pBuild [(.bool false), (.bool false), (.bool false), (.bool false), (.bool false)] [(1, 1, (cv (.bool true))), (2, 1, (cv (.bool true)))]),
  ip 6 (pBuild [(.bool false), (.bool false), (.bool false), (.bool false), (.bool false)] [(0, 1, (cv (.bool true))), (1, 1, (cv (.bool true))), (2, 1, (cv (.bool true)))]),
  ip 7 (pBuild [(.bool false), (.bool false), (.bool false), (.bool false), (.bool false)] [(0, 1, (cv (.bool true))), (1, 1, (cv (.bool true))), (2, 1, (cv (.bool true)))]),
  ip 8 (pBuild [(.bool false), (.bool false), (.bool false), (.bool false), (.bool false)] [(0, 1, (cv (.bool true))), (1, 1, (cv (.bool true))), (2, 1, (cv (.bool true))), (3, 1, (cv (.bool true)))]),
  ip 9 (pBuild [(.bool false), (.bool false), (.bool false), (.bool false), (.bool false)] []),
  ip 10 (pBuild [(.bool false), (.bool false), (.bool false), (.bool false), (.bool false)] [(2, 1, (cv (.bool true)))]),
  ip 11 (pBuild [(.bool false), (.bool false), (.bool false), (.bool false), (.bool false)] [(4, 1, (cv (.bool true)))]),
  ip 12 (pBuild [(.bool false), (.bool false), (.bool false), (.bool false), (.bool false)] [(2, 1, (cv (.bool true))), (4, 1, (cv (.bool true)))]),
  ip 13 (pBuild [(.bool false), (.bool false), (.bool false), (.bool false), (.bool false), (.bool false), (.bool false), (.bool false), (.bool false), (.bool false), (.bool false), (.bool false), (.bool false), (.bool false), (.bool false), (.bool false), (.bool false), (.bool false), (.bool false), (.bool false), (.bool false), (.bool false), (.bool false), (.bool false), (.bool false), (.bool false), (.bool false), (.bool false), (.bool false), (.bool false), (.bool false), (.bool false), (.bool false), (.bool false), (.bool false), (.bool false), (.bool false), (.bool false), (.bool false), (.bool false), (.bool false), (.bool false), (.bool false), (.bool false), (.bool false), (.bool false), (.bool false), (.bool false), (.bool false), (.bool false), (.bool false), (.bool false), (.bool false), (.bool false), (.bool false)] [(5, 5, (tg 3)), (10, 5, (tg 4)), (15, 5, (tg 5)), (20, 5, (tg 6)), (25, 5, (tg 7)), (30, 5, (tg 8)), (35, 5, (tg 9)), (40, 5, (tg 10)), (45, 5, (tg 11)), (50, 5, (tg 12))]),
  ip 14 (pMov (tg 0)),
  ip 15 (pIdx 11 true 5 (tg 13) (tg 14)),
  im0 3 (mStore 5 (tg 2) (tg 15))]
@[simp] def oc1_2_ap := ops_rule (c := oc1_2) rfl
def cc1_1 : SC := sSeq (sReg (seqI oc1_2)) sRet
@[simp] def cc1_1_ap := seq_rule (c := cc1_1) rfl
def cc1_2 : SC := sSeq (sReg (seqI oc1_1)) cc1_1
@[simp] def cc1_2_ap := seq_rule (c := cc1_2) rfl
def dc1 : DFn := ⟨cc1_2, 16, [.cell 2 5]⟩
theorem dc1_ok : fnOf Tryz.prog 106 = some dc1 := by kernel_rfl
def oc2_1 : List IS := [im 1 3 (mBox (tg 0)),
  im 1 4 (mBox (tg 1)),
  ip 6 (pMov (cv (.bool false)))]
@[simp] def oc2_1_ap := ops_rule (c := oc2_1) rfl
def oc2_2 : List IS := [ip 7 (pFaddr 3 (tg 3)),
  il 8 (tg 7) (mLoad1 (tg 7)),
  ip 9 (pBin .lss (tg 8) (cv (.int .i64 0))),
  ip 10 (pMov (tg 9)),
  gd 10 false (some 11) (ip 11 (pFaddr 3 (tg 3))),
  gd 10 false (some 12) (il 12 (tg 11) (mLoad1 (tg 11))),
  gd 10 false (some 13) (ip 13 (pBin .gtr (tg 12) (cv (.int .i64 1024)))),
  ip 14 (pPick (tg 10) (cv (.bool true)) (tg 13)),
  ip 15 (pMov (tg 14)),
  gd 15 false (some 16) (ip 16 (pFaddr 3 (tg 3))),
  gd 15 false (some 17) (il 17 (tg 16) (mLoad1 (tg 16))),
  gd 15 false (some 18) (ip 18 (pFaddr 3 (tg 3))),
  gd 15 false (some 19) (il 19 (tg 18) (mLoad1 (tg 18))),
  gd 15 false (some 20) (ip 20 (pBin .sub (tg 19) (cv (.int .i64 1)))),
  gd 15 false (some 21) (ip 21 (pBin .and (tg 17) (tg 20))),
  gd 15 false (some 22) (ip 22 (pBin .neq (tg 21) (cv (.int .i64 0)))),
  ip 23 (pPick (tg 15) (cv (.bool true)) (tg 22)),
  ip 24 (pMov (tg 23)),
  gd 24 false (some 25) (ip 25 (pFaddr 2 (tg 3))),
  gd 24 false (some 26) (il 26 (tg 25) (mLoad1 (tg 25))),
  gd 24 false (some 27) (ip 27 (pBin .lss (tg 26) (cv (.int .i64 0)))),
  ip 28 (pPick (tg 24) (cv (.bool true)) (tg 27)),
  ip 29 (pMov (tg 28)),
  gd 29 false (some 30) (ip 30 (pFaddr 2 (tg 3))),
  gd 29 false (some 31) (il 31 (tg 30) (mLoad1 (tg 30))),
  gd 29 false (some 32) (ip 32 (pFaddr 0 (tg 4))),
  gd 29 false (some 33) (il 33 (tg 32) (mLoad1 (tg 32))),
  gd 29 false (some 34) (ip 34 (pFaddr 3 (tg 3))),
  gd 29 false (some 35) (il 35 (tg 34) (mLoad1 (tg 34))),
  gd 29 false (some 36) (ip 36 (pMm True [(cv (.int .i64 1)), (tg 35)])),
  gd 29 false (some 37) (ip 37 (pBin .sub (tg 33) (tg 36))),
  gd 29 false (some 38) (ip 38 (pBin .gtr (tg 31) (tg 37))),
  ip 39 (pPick (tg 29) (cv (.bool true)) (tg 38))]
@[simp] def oc2_2_ap := ops_rule (c := oc2_2) rfl
def oc2_3 : List IS := [ip 6 (pMov (cv (.bool false)))]
@[simp] def oc2_3_ap := ops_rule (c := oc2_3) rfl
def cc2_1 : SC := sSeq (sReg (seqI oc2_3)) sRet
@[simp] def cc2_1_ap := seq_rule (c := cc2_1) rfl
def cc2_2 : SC := sCond (tg 39) cc2_1 sSkip
@[simp] def cc2_2_ap := cond_rule (c := cc2_2) rfl
def cc2_3 : SC := sSeq (sReg (seqI oc2_2)) cc2_2
@[simp] def cc2_3_ap := seq_rule (c := cc2_3) rfl
def oc2_4 : List IS := [ip 40 (pFaddr 3 (tg 3)),
  il 41 (tg 40) (mLoad1 (tg 40)),
  ip 42 (pBin .eql (tg 41) (cv (.int .i64 0))),
  ip 43 (pMov (tg 42)),
  gd 43 true (some 44) (ip 44 (pFaddr 4 (tg 3))),
  gd 43 true (some 45) (il 45 (tg 44) (mLoad1 (tg 44))),
  gd 43 true (some 46) (ip 46 (pLen (tg 45))),
  gd 43 true (some 47) (ip 47 (pBin .eql (tg 46) (cv (.int .i64 0)))),
  ip 48 (pPick (tg 43) (tg 47) (cv (.bool false))),
  ip 49 (pMov (tg 48)),
  gd 49 false (some 50) (ip 50 (pFaddr 3 (tg 3))),
  gd 49 false (some 51) (il 51 (tg 50) (mLoad1 (tg 50))),
  gd 49 false (some 52) (ip 52 (pBin .gtr (tg 51) (cv (.int .i64 0)))),
  gd 49 false (some 53) (ip 53 (pMov (tg 52))),
  gd 53 true (some 54) (ip 54 (pFaddr 4 (tg 3))),
  gd 53 true (some 55) (il 55 (tg 54) (mLoad1 (tg 54))),
  gd 53 true (some 56) (ip 56 (pMov (tg 2))),
  gd 53 true (some 57) (im 3 57 (mCall 108 [(tg 55), (tg 56)])),
  gd 49 false (some 58) (ip 58 (pPick (tg 53) (tg 57) (cv (.bool false)))),
  ip 59 (pPick (tg 49) (cv (.bool true)) (tg 58)),
  ip 6 (pMov (tg 59))]
@[simp] def oc2_4_ap := ops_rule (c := oc2_4) rfl
def cc2_4 : SC := sSeq (sReg (seqI oc2_4)) sRet
@[simp] def cc2_4_ap := seq_rule (c := cc2_4) rfl
def cc2_5 : SC := sSeq cc2_3 cc2_4
@[simp] def cc2_5_ap := seq_rule (c := cc2_5) rfl
def cc2_6 : SC := sSeq (sReg (seqI oc2_1)) cc2_5
@[simp] def cc2_6_ap := seq_rule (c := cc2_6) rfl
def dc2 : DFn := ⟨cc2_6, 60, [.t 6]⟩
theorem dc2_ok : fnOf Tryz.prog 107 = some dc2 := by kernel_rfl
def oc3_1 : List IS := [ip 4 (pMov (cv (.bool false)))]
@[simp] def oc3_1_ap := ops_rule (c := oc3_1) rfl
def oc3_2 : List IS := [ip 9 (pMov (tg 0)),
  ip 10 (pLen (tg 9)),
  ip 11 (pMov (cv (.int .i64 0)))]
@[simp] def oc3_2_ap := ops_rule (c := oc3_2) rfl
def oc3_3 : List IS := [ip 12 (pBin .lss (tg 11) (tg 10))]
@[simp] def oc3_3_ap := ops_rule (c := oc3_3) rfl
def cc3_1 : SC := sCond (tg 12) sSkip (sExit 0)
@[simp] def cc3_1_ap := cond_rule (c := cc3_1) rfl
def oc3_4 : List IS := [ip 13 (pMov (tg 11)),
  ip 14 (pIaddrS 4 (tg 9) (tg 11)),
  il 15 (tg 14) (mLoadN 4 (tg 14)),
  im 1 6 (mAlloc [(.int .i64 0), (.int .u64 0), (.int .i64 0), (.int .i64 0)]),
  ip 5 (pMov (tg 13)),
  im0 3 (mStore 4 (tg 6) (tg 15))]
@[simp] def oc3_4_ap := ops_rule (c := oc3_4) rfl
def oc3_5 : List DA := [⟨CI.pure (pFaddr 2 (tg 6)), (some 16), none, 0, []⟩,
  ⟨CI.load (tg 16) (mLoad1 (tg 16)), (some 17), none, 1, []⟩,
  ⟨CI.pure (pBin .geq (tg 17) (cv (.int .i64 0))), (some 18), none, 2, []⟩,
  ⟨CI.pure (pMov (tg 18)), (some 19), none, 3, []⟩,
  ⟨CI.pure (pFaddr 2 (tg 6)), (some 20), (some (19, true)), 4, []⟩,
  ⟨CI.load (tg 20) (mLoad1 (tg 20)), (some 21), (some (19, true)), 5, []⟩,
  ⟨CI.pure (pMov (tg 5)), (some 22), (some (19, true)), 6, []⟩,
  ⟨CI.pure (pBin .lss (tg 21) (tg 22)), (some 23), (some (19, true)), 7, []⟩,
  ⟨CI.pure (pPick (tg 19) (tg 23) (cv (.bool false))), (some 24), none, 8, []⟩,
  ⟨CI.pure (pFaddr 3 (tg 6)), (some 25), none, 9, []⟩,
  ⟨CI.load (tg 25) (mLoad1 (tg 25)), (some 26), none, 10, []⟩,
  ⟨CI.pure (pBin .geq (tg 26) (cv (.int .i64 0))), (some 27), none, 11, []⟩,
  ⟨CI.pure (pMov (tg 27)), (some 28), none, 12, []⟩,
  ⟨CI.pure (pFaddr 3 (tg 6)), (some 29), (some (28, true)), 13, []⟩,
  ⟨CI.load (tg 29) (mLoad1 (tg 29)), (some 30), (some (28, true)), 14, []⟩,
  ⟨CI.pure (pMov (tg 5)), (some 31), (some (28, true)), 15, []⟩,
  ⟨CI.pure (pBin .lss (tg 30) (tg 31)), (some 32), (some (28, true)), 16, []⟩,
  ⟨CI.pure (pPick (tg 28) (tg 32) (cv (.bool false))), (some 33), none, 17, []⟩,
  ⟨CI.pure (pMov (tg 24)), (some 7), none, 18, []⟩,
  ⟨CI.pure (pMov (tg 33)), (some 8), none, 19, []⟩]
@[simp] def oc3_5_ap := das_rule (c := oc3_5) rfl
def oc3_6 : List IS := [ip 51 (pFaddr 0 (tg 6)),
  il 52 (tg 51) (mLoad1 (tg 51)),
  ip 53 (pBin .eql (tg 52) (cv (.int .i64 1))),
  ip 50 (pMov (tg 53))]
@[simp] def oc3_6_ap := ops_rule (c := oc3_6) rfl
def oc3_7 : List DA := [⟨CI.pure (pFaddr 2 (tg 6)), (some 54), none, 0, []⟩,
  ⟨CI.load (tg 54) (mLoad1 (tg 54)), (some 55), none, 1, []⟩,
  ⟨CI.pure (pBin .eql (tg 55) (cv (.int .i64 0))), (some 56), none, 2, []⟩,
  ⟨CI.pure (pFaddr 3 (tg 6)), (some 57), none, 3, []⟩,
  ⟨CI.load (tg 57) (mLoad1 (tg 57)), (some 58), none, 4, []⟩,
  ⟨CI.pure (pBin .eql (tg 58) (cv (.int .i64 0))), (some 59), none, 5, []⟩,
  ⟨CI.pure (pMov (tg 56)), (some 7), none, 6, []⟩,
  ⟨CI.pure (pMov (tg 59)), (some 8), none, 7, []⟩]
@[simp] def oc3_7_ap := das_rule (c := oc3_7) rfl
def oc3_8 : List IS := [ip 61 (pFaddr 0 (tg 6)),
  il 62 (tg 61) (mLoad1 (tg 61)),
  ip 63 (pBin .eql (tg 62) (cv (.int .i64 2))),
  ip 60 (pMov (tg 63))]
@[simp] def oc3_8_ap := ops_rule (c := oc3_8) rfl
def oc3_9 : List DA := [⟨CI.pure (pFaddr 2 (tg 6)), (some 64), none, 0, []⟩,
  ⟨CI.load (tg 64) (mLoad1 (tg 64)), (some 65), none, 1, []⟩,
  ⟨CI.pure (pBin .eql (tg 65) (cv (.int .i64 0))), (some 66), none, 2, []⟩,
  ⟨CI.pure (pMov (tg 66)), (some 67), none, 3, []⟩,
  ⟨CI.pure (pFaddr 1 (tg 6)), (some 68), (some (67, true)), 4, []⟩,
  ⟨CI.load (tg 68) (mLoad1 (tg 68)), (some 69), (some (67, true)), 5, []⟩,
  ⟨CI.pure (pMov (tg 1)), (some 70), (some (67, true)), 6, []⟩,
  ⟨CI.pure (pConvI .u64 (tg 70)), (some 71), (some (67, true)), 7, []⟩,
  ⟨CI.pure (pBin .lss (tg 69) (tg 71)), (some 72), (some (67, true)), 8, []⟩,
  ⟨CI.pure (pPick (tg 67) (tg 72) (cv (.bool false))), (some 73), none, 9, []⟩,
  ⟨CI.pure (pFaddr 3 (tg 6)), (some 74), none, 10, []⟩,
  ⟨CI.load (tg 74) (mLoad1 (tg 74)), (some 75), none, 11, []⟩,
  ⟨CI.pure (pBin .eql (tg 75) (cv (.int .i64 0))), (some 76), none, 12, []⟩,
  ⟨CI.pure (pMov (tg 73)), (some 7), none, 13, []⟩,
  ⟨CI.pure (pMov (tg 76)), (some 8), none, 14, []⟩]
@[simp] def oc3_9_ap := das_rule (c := oc3_9) rfl
def oc3_10 : List IS := [ip 78 (pFaddr 0 (tg 6)),
  il 79 (tg 78) (mLoad1 (tg 78)),
  ip 80 (pBin .geq (tg 79) (cv (.int .i64 3))),
  ip 81 (pMov (tg 80)),
  gd 81 true (some 82) (ip 82 (pFaddr 0 (tg 6))),
  gd 81 true (some 83) (il 83 (tg 82) (mLoad1 (tg 82))),
  gd 81 true (some 84) (ip 84 (pBin .leq (tg 83) (cv (.int .i64 5)))),
  ip 85 (pPick (tg 81) (tg 84) (cv (.bool false))),
  ip 77 (pMov (tg 85))]
@[simp] def oc3_10_ap := ops_rule (c := oc3_10) rfl
def oc3_11 : List IS := [ip 86 (pFaddr 3 (tg 6)),
  il 87 (tg 86) (mLoad1 (tg 86)),
  ip 88 (pBin .eql (tg 87) (cv (.int .i64 0))),
  ip 89 (pMov (tg 88)),
  gd 89 true (some 90) (ip 90 (pFaddr 1 (tg 6))),
  gd 89 true (some 91) (il 91 (tg 90) (mLoad1 (tg 90))),
  gd 89 true (some 92) (ip 92 (pBin .eql (tg 91) (cv (.int .u64 0)))),
  ip 93 (pPick (tg 89) (tg 92) (cv (.bool false))),
  ip 8 (pMov (tg 93))]
@[simp] def oc3_11_ap := ops_rule (c := oc3_11) rfl
def oc3_12 : List IS := [ip 34 (pMov (tg 8)),
  ip 35 (pMov (tg 34)),
  gd 35 true (some 36) (ip 36 (pFaddr 0 (tg 6))),
  gd 35 true (some 37) (il 37 (tg 36) (mLoad1 (tg 36))),
  gd 35 true (some 38) (ip 38 (pBin .geq (tg 37) (cv (.int .i64 6)))),
  ip 39 (pPick (tg 35) (tg 38) (cv (.bool false))),
  ip 40 (pMov (tg 39)),
  gd 40 true (some 41) (ip 41 (pFaddr 0 (tg 6))),
  gd 40 true (some 42) (il 42 (tg 41) (mLoad1 (tg 41))),
  gd 40 true (some 43) (ip 43 (pBin .leq (tg 42) (cv (.int .i64 19)))),
  ip 44 (pPick (tg 40) (tg 43) (cv (.bool false))),
  ip 45 (pMov (tg 44)),
  gd 45 true (some 46) (ip 46 (pFaddr 1 (tg 6))),
  gd 45 true (some 47) (il 47 (tg 46) (mLoad1 (tg 46))),
  gd 45 true (some 48) (ip 48 (pBin .eql (tg 47) (cv (.int .u64 0)))),
  ip 49 (pPick (tg 45) (tg 48) (cv (.bool false))),
  ip 8 (pMov (tg 49))]
@[simp] def oc3_12_ap := ops_rule (c := oc3_12) rfl
def cc3_2 : SC := sCond (tg 77) (sReg (seqI oc3_11)) (sReg (seqI oc3_12))
@[simp] def cc3_2_ap := cond_rule (c := cc3_2) rfl
def cc3_3 : SC := sSeq (sReg (seqI oc3_10)) cc3_2
@[simp] def cc3_3_ap := seq_rule (c := cc3_3) rfl
def cc3_4 : SC := sCond (tg 60) (sAny oc3_9) cc3_3
@[simp] def cc3_4_ap := cond_rule (c := cc3_4) rfl
def cc3_5 : SC := sSeq (sReg (seqI oc3_8)) cc3_4
@[simp] def cc3_5_ap := seq_rule (c := cc3_5) rfl
def cc3_6 : SC := sCond (tg 50) (sAny oc3_7) cc3_5
@[simp] def cc3_6_ap := cond_rule (c := cc3_6) rfl
def cc3_7 : SC := sSeq (sReg (seqI oc3_6)) cc3_6
@[simp] def cc3_7_ap := seq_rule (c := cc3_7) rfl
def cc3_8 : SC := sBlock 2 cc3_7
@[simp] def cc3_8_ap := block_rule (c := cc3_8) rfl
def oc3_13 : List IS := [ip 94 (pMov (tg 7)),
  ip 95 (pUn .not (tg 94)),
  ip 96 (pMov (tg 95)),
  gd 96 false (some 97) (ip 97 (pMov (tg 8))),
  gd 96 false (some 98) (ip 98 (pUn .not (tg 97))),
  ip 99 (pPick (tg 96) (cv (.bool true)) (tg 98))]
@[simp] def oc3_13_ap := ops_rule (c := oc3_13) rfl
def oc3_14 : List IS := [ip 4 (pMov (cv (.bool false)))]
@[simp] def oc3_14_ap := ops_rule (c := oc3_14) rfl
def cc3_9 : SC := sSeq (sReg (seqI oc3_14)) sRet
@[simp] def cc3_9_ap := seq_rule (c := cc3_9) rfl
def cc3_10 : SC := sCond (tg 99) cc3_9 sSkip
@[simp] def cc3_10_ap := cond_rule (c := cc3_10) rfl
def cc3_11 : SC := sSeq (sReg (seqI oc3_13)) cc3_10
@[simp] def cc3_11_ap := seq_rule (c := cc3_11) rfl
def cc3_12 : SC := sSeq cc3_8 cc3_11
@[simp] def cc3_12_ap := seq_rule (c := cc3_12) rfl
def cc3_13 : SC := sSeq (sAny oc3_5) cc3_12
@[simp] def cc3_13_ap := seq_rule (c := cc3_13) rfl
def cc3_14 : SC := sSeq (sReg (seqI oc3_4)) cc3_13
@[simp] def cc3_14_ap := seq_rule (c := cc3_14) rfl
def cc3_15 : SC := sBlock 1 cc3_14
@[simp] def cc3_15_ap := block_rule (c := cc3_15) rfl
def oc3_15 : List IS := [ip 100 (pBin .add (tg 11) (cv (.int .i64 1))),
  ip 11 (pMov (tg 100))]
@[simp] def oc3_15_ap := ops_rule (c := oc3_15) rfl
def cc3_16 : SC := sSeq cc3_15 (sReg (seqI oc3_15))
@[simp] def cc3_16_ap := seq_rule (c := cc3_16) rfl
def cc3_17 : SC := sSeq cc3_1 cc3_16
@[simp] def cc3_17_ap := seq_rule (c := cc3_17) rfl
def cc3_18 : SC := sSeq (sReg (seqI oc3_3)) cc3_17
@[simp] def cc3_18_ap := seq_rule (c := cc3_18) rfl
def cc3_19 : SC := sLoop cc3_18
def cc3_20 : SC := sBlock 0 cc3_19
@[simp] def cc3_20_ap := block_rule (c := cc3_20) rfl
def cc3_21 : SC := sSeq (sReg (seqI oc3_2)) cc3_20
@[simp] def cc3_21_ap := seq_rule (c := cc3_21) rfl
def oc3_16 : List IS := [ip 101 (pMov (tg 0)),
  ip 102 (pLen (tg 101)),
  ip 103 (pBin .gtr (tg 102) (cv (.int .i64 0))),
  ip 104 (pMov (tg 103)),
  gd 104 true (some 105) (ip 105 (pMov (tg 0))),
  gd 104 true (some 106) (ip 106 (pLen (tg 105))),
  gd 104 true (some 107) (ip 107 (pBin .leq (tg 106) (cv (.int .i64 65536)))),
  ip 108 (pPick (tg 104) (tg 107) (cv (.bool false))),
  ip 109 (pMov (tg 108)),
  gd 109 true (some 110) (ip 110 (pMov (tg 0))),
  gd 109 true (some 111) (im 3 111 (mCall 163 [(tg 110)])),
  ip 112 (pPick (tg 109) (tg 111) (cv (.bool false))),
  ip 4 (pMov (tg 112))]
@[simp] def oc3_16_ap := ops_rule (c := oc3_16) rfl
def cc3_22 : SC := sSeq (sReg (seqI oc3_16)) sRet
@[simp] def cc3_22_ap := seq_rule (c := cc3_22) rfl
def cc3_23 : SC := sSeq cc3_21 cc3_22
@[simp] def cc3_23_ap := seq_rule (c := cc3_23) rfl
def cc3_24 : SC := sSeq (sReg (seqI oc3_1)) cc3_23
@[simp] def cc3_24_ap := seq_rule (c := cc3_24) rfl
def dc3 : DFn := ⟨cc3_24, 113, [.t 4]⟩
theorem dc3_ok : fnOf Tryz.prog 108 = some dc3 := by kernel_rfl
def oc4_1 : List IS := [ip 4 (pMov (cv (.int .i64 0)))]
@[simp] def oc4_1_ap := ops_rule (c := oc4_1) rfl
def oc4_2 : List IS := [ip 6 (pMov (tg 0)),
  ip 7 (pLen (tg 6)),
  ip 8 (pMov (cv (.int .i64 0)))]
@[simp] def oc4_2_ap := ops_rule (c := oc4_2) rfl
def oc4_3 : List IS := [ip 9 (pBin .lss (tg 8) (tg 7))]
@[simp] def oc4_3_ap := ops_rule (c := oc4_3) rfl
def cc4_1 : SC := sCond (tg 9) sSkip (sExit 0)
@[simp] def cc4_1_ap := cond_rule (c := cc4_1) rfl
def oc4_4 : List IS := [ip 10 (pMov (tg 8)),
  ip 5 (pMov (tg 10))]
@[simp] def oc4_4_ap := ops_rule (c := oc4_4) rfl
def oc4_5 : List IS := [ip 11 (pMov (tg 1)),
  ip 12 (pMov (tg 0)),
  ip 13 (pMov (tg 5)),
  ip 14 (pIaddrS 4 (tg 12) (tg 13)),
  il 15 (tg 14) (mLoadN 4 (tg 14)),
  im 3 16 (mCallv (tg 11) [(tg 15)])]
@[simp] def oc4_5_ap := ops_rule (c := oc4_5) rfl
def oc4_6 : List IS := [ip 17 (pMov (tg 5)),
  ip 4 (pMov (tg 17))]
@[simp] def oc4_6_ap := ops_rule (c := oc4_6) rfl
def cc4_2 : SC := sSeq (sReg (seqI oc4_6)) sRet
@[simp] def cc4_2_ap := seq_rule (c := cc4_2) rfl
def cc4_3 : SC := sCond (tg 16) cc4_2 sSkip
@[simp] def cc4_3_ap := cond_rule (c := cc4_3) rfl
def cc4_4 : SC := sSeq (sReg (seqI oc4_5)) cc4_3
@[simp] def cc4_4_ap := seq_rule (c := cc4_4) rfl
def cc4_5 : SC := sSeq (sReg (seqI oc4_4)) cc4_4
@[simp] def cc4_5_ap := seq_rule (c := cc4_5) rfl
def cc4_6 : SC := sBlock 1 cc4_5
@[simp] def cc4_6_ap := block_rule (c := cc4_6) rfl
def oc4_7 : List IS := [ip 18 (pBin .add (tg 8) (cv (.int .i64 1))),
  ip 8 (pMov (tg 18))]
@[simp] def oc4_7_ap := ops_rule (c := oc4_7) rfl
def cc4_7 : SC := sSeq cc4_6 (sReg (seqI oc4_7))
@[simp] def cc4_7_ap := seq_rule (c := cc4_7) rfl
def cc4_8 : SC := sSeq cc4_1 cc4_7
@[simp] def cc4_8_ap := seq_rule (c := cc4_8) rfl
def cc4_9 : SC := sSeq (sReg (seqI oc4_3)) cc4_8
@[simp] def cc4_9_ap := seq_rule (c := cc4_9) rfl
def cc4_10 : SC := sLoop cc4_9
def cc4_11 : SC := sBlock 0 cc4_10
@[simp] def cc4_11_ap := block_rule (c := cc4_11) rfl
def cc4_12 : SC := sSeq (sReg (seqI oc4_2)) cc4_11
@[simp] def cc4_12_ap := seq_rule (c := cc4_12) rfl
def oc4_8 : List IS := [ip 4 (pMov (cv (.int .i64 (-1))))]
@[simp] def oc4_8_ap := ops_rule (c := oc4_8) rfl
def cc4_13 : SC := sSeq (sReg (seqI oc4_8)) sRet
@[simp] def cc4_13_ap := seq_rule (c := cc4_13) rfl
def cc4_14 : SC := sSeq cc4_12 cc4_13
@[simp] def cc4_14_ap := seq_rule (c := cc4_14) rfl
def cc4_15 : SC := sSeq (sReg (seqI oc4_1)) cc4_14
@[simp] def cc4_15_ap := seq_rule (c := cc4_15) rfl
def dc4 : DFn := ⟨cc4_15, 19, [.t 4]⟩
theorem dc4_ok : fnOf Tryz.prog 150 = some dc4 := by kernel_rfl
def oc5_1 : List IS := [ip 4 (pMov (cv (.int .u64 0)))]
@[simp] def oc5_1_ap := ops_rule (c := oc5_1) rfl
def oc5_2 : List IS := [ip 8 (pMov (tg 0)),
  ip 9 (pLen (tg 8)),
  im 1 10 (mMkslice 1 8 [(.int .u64 0)] (tg 9) (tg 9)),
  ip 5 (pMov (tg 10))]
@[simp] def oc5_2_ap := ops_rule (c := oc5_2) rfl
def oc5_3 : List IS := [ip 11 (pMov (tg 0)),
  ip 12 (pLen (tg 11)),
  ip 13 (pMov (cv (.int .i64 0)))]
@[simp] def oc5_3_ap := ops_rule (c := oc5_3) rfl
def oc5_4 : List IS := [ip 14 (pBin .lss (tg 13) (tg 12))]
@[simp] def oc5_4_ap := ops_rule (c := oc5_4) rfl
def cc5_1 : SC := sCond (tg 14) sSkip (sExit 0)
@[simp] def cc5_1_ap := cond_rule (c := cc5_1) rfl
def oc5_5 : List IS := [ip 15 (pMov (tg 13)),
  ip 16 (pIaddrS 4 (tg 11) (tg 13)),
  il 17 (tg 16) (mLoadN 4 (tg 16)),
  im 1 7 (mAlloc [(.int .i64 0), (.int .u64 0), (.int .i64 0), (.int .i64 0)]),
  ip 6 (pMov (tg 15)),
  im0 3 (mStore 4 (tg 7) (tg 17))]
@[simp] def oc5_5_ap := ops_rule (c := oc5_5) rfl
def oc5_6 : List IS := [ip 35 (pFaddr 0 (tg 7)),
  il 36 (tg 35) (mLoad1 (tg 35)),
  ip 37 (pBin .eql (tg 36) (cv (.int .i64 1))),
  ip 34 (pMov (tg 37))]
@[simp] def oc5_6_ap := ops_rule (c := oc5_6) rfl
def oc5_7 : List IS := [ip 38 (pMov (tg 5)),
  ip 39 (pMov (tg 6)),
  ip 40 (pFaddr 1 (tg 7)),
  il 41 (tg 40) (mLoad1 (tg 40)),
  ip 42 (pIaddrS 1 (tg 38) (tg 39)),
  im0 3 (mStore 1 (tg 42) (tg 41))]
@[simp] def oc5_7_ap := ops_rule (c := oc5_7) rfl
def oc5_8 : List IS := [ip 44 (pFaddr 0 (tg 7)),
  il 45 (tg 44) (mLoad1 (tg 44)),
  ip 46 (pBin .eql (tg 45) (cv (.int .i64 2))),
  ip 43 (pMov (tg 46))]
@[simp] def oc5_8_ap := ops_rule (c := oc5_8) rfl
def oc5_9 : List IS := [ip 47 (pMov (tg 5)),
  ip 48 (pMov (tg 6)),
  ip 49 (pMov (tg 1)),
  ip 50 (pFaddr 1 (tg 7)),
  il 51 (tg 50) (mLoad1 (tg 50)),
  ip 52 (pIaddrS 1 (tg 49) (tg 51)),
  il 53 (tg 52) (mLoad1 (tg 52)),
  ip 54 (pIaddrS 1 (tg 47) (tg 48)),
  im0 3 (mStore 1 (tg 54) (tg 53))]
@[simp] def oc5_9_ap := ops_rule (c := oc5_9) rfl
def oc5_10 : List IS := [ip 56 (pFaddr 0 (tg 7)),
  il 57 (tg 56) (mLoad1 (tg 56)),
  ip 58 (pBin .leq (tg 57) (cv (.int .i64 5))),
  ip 55 (pMov (tg 58))]
@[simp] def oc5_10_ap := ops_rule (c := oc5_10) rfl
def oc5_11 : List DA := [⟨CI.pure (pMov (tg 5)), (some 59), none, 0, []⟩,
  ⟨CI.pure (pMov (tg 6)), (some 60), none, 1, []⟩,
  ⟨CI.pure (pFaddr 0 (tg 7)), (some 61), none, 2, []⟩,
  ⟨CI.load (tg 61) (mLoad1 (tg 61)), (some 62), none, 3, []⟩,
  ⟨CI.pure (pMov (tg 5)), (some 63), none, 4, []⟩,
  ⟨CI.pure (pFaddr 2 (tg 7)), (some 64), none, 5, []⟩,
  ⟨CI.load (tg 64) (mLoad1 (tg 64)), (some 65), none, 6, []⟩,
  ⟨CI.pure (pIaddrS 1 (tg 63) (tg 65)), (some 66), none, 7, []⟩,
  ⟨CI.load (tg 66) (mLoad1 (tg 66)), (some 67), none, 8, []⟩,
  ⟨CI.mem 3 (mCall 220 [(tg 62), (tg 67)]), (some 68), none, 9, []⟩,
  ⟨CI.pure (pIaddrS 1 (tg 59) (tg 60)), (some 69), none, 10, []⟩,
  ⟨CI.mem 3 (mStore 1 (tg 69) (tg 68)), none, none, 11, []⟩]
@[simp] def oc5_11_ap := das_rule (c := oc5_11) rfl
def oc5_12 : List DA := [⟨CI.pure (pMov (tg 5)), (some 18), none, 0, []⟩,
  ⟨CI.pure (pMov (tg 6)), (some 19), none, 1, []⟩,
  ⟨CI.pure (pFaddr 0 (tg 7)), (some 20), none, 2, []⟩,
  ⟨CI.load (tg 20) (mLoad1 (tg 20)), (some 21), none, 3, []⟩,
  ⟨CI.pure (pMov (tg 5)), (some 22), none, 4, []⟩,
  ⟨CI.pure (pFaddr 2 (tg 7)), (some 23), none, 5, []⟩,
  ⟨CI.load (tg 23) (mLoad1 (tg 23)), (some 24), none, 6, []⟩,
  ⟨CI.pure (pIaddrS 1 (tg 22) (tg 24)), (some 25), none, 7, []⟩,
  ⟨CI.load (tg 25) (mLoad1 (tg 25)), (some 26), none, 8, []⟩,
  ⟨CI.pure (pMov (tg 5)), (some 27), none, 9, []⟩,
  ⟨CI.pure (pFaddr 3 (tg 7)), (some 28), none, 10, []⟩,
  ⟨CI.load (tg 28) (mLoad1 (tg 28)), (some 29), none, 11, []⟩,
  ⟨CI.pure (pIaddrS 1 (tg 27) (tg 29)), (some 30), none, 12, []⟩,
  ⟨CI.load (tg 30) (mLoad1 (tg 30)), (some 31), none, 13, []⟩,
  ⟨CI.mem 3 (mCall 221 [(tg 21), (tg 26), (tg 31)]), (some 32), none, 14, []⟩,
  ⟨CI.pure (pIaddrS 1 (tg 18) (tg 19)), (some 33), none, 15, []⟩,
  ⟨CI.mem 3 (mStore 1 (tg 33) (tg 32)), none, none, 16, []⟩]
@[simp] def oc5_12_ap := das_rule (c := oc5_12) rfl
def cc5_2 : SC := sCond (tg 55) (sAny oc5_11) (sAny oc5_12)
@[simp] def cc5_2_ap := cond_rule (c := cc5_2) rfl
def cc5_3 : SC := sSeq (sReg (seqI oc5_10)) cc5_2
@[simp] def cc5_3_ap := seq_rule (c := cc5_3) rfl
def cc5_4 : SC := sCond (tg 43) (sReg (seqI oc5_9)) cc5_3
@[simp] def cc5_4_ap := cond_rule (c := cc5_4) rfl
def cc5_5 : SC := sSeq (sReg (seqI oc5_8)) cc5_4
@[simp] def cc5_5_ap := seq_rule (c := cc5_5) rfl
def cc5_6 : SC := sCond (tg 34) (sReg (seqI oc5_7)) cc5_5
@[simp] def cc5_6_ap := cond_rule (c := cc5_6) rfl
def cc5_7 : SC := sSeq (sReg (seqI oc5_6)) cc5_6
@[simp] def cc5_7_ap := seq_rule (c := cc5_7) rfl
def cc5_8 : SC := sBlock 2 cc5_7
@[simp] def cc5_8_ap := block_rule (c := cc5_8) rfl
def cc5_9 : SC := sSeq (sReg (seqI oc5_5)) cc5_8
@[simp] def cc5_9_ap := seq_rule (c := cc5_9) rfl
def cc5_10 : SC := sBlock 1 cc5_9
@[simp] def cc5_10_ap := block_rule (c := cc5_10) rfl
def oc5_13 : List IS := [ip 70 (pBin .add (tg 13) (cv (.int .i64 1))),
  ip 13 (pMov (tg 70))]
@[simp] def oc5_13_ap := ops_rule (c := oc5_13) rfl
def cc5_11 : SC := sSeq cc5_10 (sReg (seqI oc5_13))
@[simp] def cc5_11_ap := seq_rule (c := cc5_11) rfl
def cc5_12 : SC := sSeq cc5_1 cc5_11
@[simp] def cc5_12_ap := seq_rule (c := cc5_12) rfl
def cc5_13 : SC := sSeq (sReg (seqI oc5_4)) cc5_12
@[simp] def cc5_13_ap := seq_rule (c := cc5_13) rfl
def cc5_14 : SC := sLoop cc5_13
def cc5_15 : SC := sBlock 0 cc5_14
@[simp] def cc5_15_ap := block_rule (c := cc5_15) rfl
def cc5_16 : SC := sSeq (sReg (seqI oc5_3)) cc5_15
@[simp] def cc5_16_ap := seq_rule (c := cc5_16) rfl
def oc5_14 : List IS := [ip 71 (pMov (tg 5)),
  ip 72 (pMov (tg 5)),
  ip 73 (pLen (tg 72)),
  ip 74 (pBin .sub (tg 73) (cv (.int .i64 1))),
  ip 75 (pIaddrS 1 (tg 71) (tg 74)),
  il 76 (tg 75) (mLoad1 (tg 75)),
  ip 4 (pMov (tg 76))]
@[simp] def oc5_14_ap := ops_rule (c := oc5_14) rfl
def cc5_17 : SC := sSeq (sReg (seqI oc5_14)) sRet
@[simp] def cc5_17_ap := seq_rule (c := cc5_17) rfl
def cc5_18 : SC := sSeq cc5_16 cc5_17
@[simp] def cc5_18_ap := seq_rule (c := cc5_18) rfl
def cc5_19 : SC := sSeq (sReg (seqI oc5_2)) cc5_18
@[simp] def cc5_19_ap := seq_rule (c := cc5_19) rfl
def cc5_20 : SC := sSeq (sReg (seqI oc5_1)) cc5_19
@[simp] def cc5_20_ap := seq_rule (c := cc5_20) rfl
def dc5 : DFn := ⟨cc5_20, 77, [.t 4]⟩
theorem dc5_ok : fnOf Tryz.prog 151 = some dc5 := by kernel_rfl
def oc6_1 : List IS := [ip 2 (pMov (cv (.bool false)))]
@[simp] def oc6_1_ap := ops_rule (c := oc6_1) rfl
def oc6_2 : List IS := [ip 8 (pMov (tg 0)),
  ip 9 (pLen (tg 8)),
  im 1 10 (mMkslice 1 8 [(.int .i64 0)] (tg 9) (tg 9)),
  ip 3 (pMov (tg 10))]
@[simp] def oc6_2_ap := ops_rule (c := oc6_2) rfl
def oc6_3 : List IS := [ip 11 (pMov (tg 0)),
  ip 12 (pLen (tg 11)),
  ip 13 (pMov (cv (.int .i64 0)))]
@[simp] def oc6_3_ap := ops_rule (c := oc6_3) rfl
def oc6_4 : List IS := [ip 14 (pBin .lss (tg 13) (tg 12))]
@[simp] def oc6_4_ap := ops_rule (c := oc6_4) rfl
def cc6_1 : SC := sCond (tg 14) sSkip (sExit 0)
@[simp] def cc6_1_ap := cond_rule (c := cc6_1) rfl
def oc6_5 : List IS := [ip 15 (pIaddrS 4 (tg 11) (tg 13)),
  il 16 (tg 15) (mLoadN 4 (tg 15)),
  im 1 5 (mAlloc [(.int .i64 0), (.int .u64 0), (.int .i64 0), (.int .i64 0)]),
  im0 3 (mStore 4 (tg 5) (tg 16))]
@[simp] def oc6_5_ap := ops_rule (c := oc6_5) rfl
def oc6_6 : List IS := [ip 17 (pFaddr 0 (tg 5)),
  il 18 (tg 17) (mLoad1 (tg 17)),
  ip 19 (pBin .geq (tg 18) (cv (.int .i64 3)))]
@[simp] def oc6_6_ap := ops_rule (c := oc6_6) rfl
def oc6_7 : List IS := [ip 20 (pMov (tg 3)),
  ip 21 (pFaddr 2 (tg 5)),
  il 22 (tg 21) (mLoad1 (tg 21)),
  ip 23 (pIaddrS 1 (tg 20) (tg 22)),
  il 24 (tg 23) (mLoad1 (tg 23)),
  ip 25 (pBin .add (tg 24) (cv (.int .i64 1))),
  ip 26 (pIaddrS 1 (tg 20) (tg 22)),
  im0 3 (mStore 1 (tg 26) (tg 25))]
@[simp] def oc6_7_ap := ops_rule (c := oc6_7) rfl
def cc6_2 : SC := sCond (tg 19) (sReg (seqI oc6_7)) sSkip
@[simp] def cc6_2_ap := cond_rule (c := cc6_2) rfl
def cc6_3 : SC := sSeq (sReg (seqI oc6_6)) cc6_2
@[simp] def cc6_3_ap := seq_rule (c := cc6_3) rfl
def oc6_8 : List IS := [ip 27 (pFaddr 0 (tg 5)),
  il 28 (tg 27) (mLoad1 (tg 27)),
  ip 29 (pBin .geq (tg 28) (cv (.int .i64 6)))]
@[simp] def oc6_8_ap := ops_rule (c := oc6_8) rfl
def oc6_9 : List IS := [ip 30 (pMov (tg 3)),
  ip 31 (pFaddr 3 (tg 5)),
  il 32 (tg 31) (mLoad1 (tg 31)),
  ip 33 (pIaddrS 1 (tg 30) (tg 32)),
  il 34 (tg 33) (mLoad1 (tg 33)),
  ip 35 (pBin .add (tg 34) (cv (.int .i64 1))),
  ip 36 (pIaddrS 1 (tg 30) (tg 32)),
  im0 3 (mStore 1 (tg 36) (tg 35))]
@[simp] def oc6_9_ap := ops_rule (c := oc6_9) rfl
def cc6_4 : SC := sCond (tg 29) (sReg (seqI oc6_9)) sSkip
@[simp] def cc6_4_ap := cond_rule (c := cc6_4) rfl
def cc6_5 : SC := sSeq (sReg (seqI oc6_8)) cc6_4
@[simp] def cc6_5_ap := seq_rule (c := cc6_5) rfl
def cc6_6 : SC := sSeq cc6_3 cc6_5
@[simp] def cc6_6_ap := seq_rule (c := cc6_6) rfl
def cc6_7 : SC := sSeq (sReg (seqI oc6_5)) cc6_6
@[simp] def cc6_7_ap := seq_rule (c := cc6_7) rfl
def cc6_8 : SC := sBlock 1 cc6_7
@[simp] def cc6_8_ap := block_rule (c := cc6_8) rfl
def oc6_10 : List IS := [ip 37 (pBin .add (tg 13) (cv (.int .i64 1))),
  ip 13 (pMov (tg 37))]
@[simp] def oc6_10_ap := ops_rule (c := oc6_10) rfl
def cc6_9 : SC := sSeq cc6_8 (sReg (seqI oc6_10))
@[simp] def cc6_9_ap := seq_rule (c := cc6_9) rfl
def cc6_10 : SC := sSeq cc6_1 cc6_9
@[simp] def cc6_10_ap := seq_rule (c := cc6_10) rfl
def cc6_11 : SC := sSeq (sReg (seqI oc6_4)) cc6_10
@[simp] def cc6_11_ap := seq_rule (c := cc6_11) rfl
def cc6_12 : SC := sLoop cc6_11
def cc6_13 : SC := sBlock 0 cc6_12
@[simp] def cc6_13_ap := block_rule (c := cc6_13) rfl
def cc6_14 : SC := sSeq (sReg (seqI oc6_3)) cc6_13
@[simp] def cc6_14_ap := seq_rule (c := cc6_14) rfl
def oc6_11 : List IS := [ip 38 (pMov (tg 3)),
  ip 39 (pLen (tg 38)),
  ip 40 (pMov (cv (.int .i64 0)))]
@[simp] def oc6_11_ap := ops_rule (c := oc6_11) rfl
def oc6_12 : List IS := [ip 41 (pBin .lss (tg 40) (tg 39))]
@[simp] def oc6_12_ap := ops_rule (c := oc6_12) rfl
def cc6_15 : SC := sCond (tg 41) sSkip (sExit 2)
@[simp] def cc6_15_ap := cond_rule (c := cc6_15) rfl
def oc6_13 : List IS := [ip 42 (pMov (tg 40)),
  ip 43 (pIaddrS 1 (tg 38) (tg 40)),
  il 44 (tg 43) (mLoad1 (tg 43)),
  ip 6 (pMov (tg 42)),
  ip 7 (pMov (tg 44))]
@[simp] def oc6_13_ap := ops_rule (c := oc6_13) rfl
def oc6_14 : List IS := [ip 45 (pMov (tg 7)),
  ip 46 (pBin .eql (tg 45) (cv (.int .i64 1))),
  ip 47 (pMov (tg 6)),
  ip 48 (pMov (tg 0)),
  ip 49 (pLen (tg 48)),
  ip 50 (pBin .sub (tg 49) (cv (.int .i64 1))),
  ip 51 (pBin .lss (tg 47) (tg 50)),
  ip 52 (pEqB true (tg 46) (tg 51)),
  ip 53 (pMov (tg 52)),
  gd 53 false (some 54) (ip 54 (pMov (tg 7))),
  gd 53 false (some 55) (ip 55 (pBin .gtr (tg 54) (cv (.int .i64 1)))),
  ip 56 (pPick (tg 53) (cv (.bool true)) (tg 55))]
@[simp] def oc6_14_ap := ops_rule (c := oc6_14) rfl
def oc6_15 : List IS := [ip 2 (pMov (cv (.bool false)))]
@[simp] def oc6_15_ap := ops_rule (c := oc6_15) rfl
def cc6_16 : SC := sSeq (sReg (seqI oc6_15)) sRet
@[simp] def cc6_16_ap := seq_rule (c := cc6_16) rfl
def cc6_17 : SC := sCond (tg 56) cc6_16 sSkip
@[simp] def cc6_17_ap := cond_rule (c := cc6_17) rfl
def cc6_18 : SC := sSeq (sReg (seqI oc6_14)) cc6_17
@[simp] def cc6_18_ap := seq_rule (c := cc6_18) rfl
def cc6_19 : SC := sSeq (sReg (seqI oc6_13)) cc6_18
@[simp] def cc6_19_ap := seq_rule (c := cc6_19) rfl
def cc6_20 : SC := sBlock 3 cc6_19
@[simp] def cc6_20_ap := block_rule (c := cc6_20) rfl
def oc6_16 : List IS := [ip 57 (pBin .add (tg 40) (cv (.int .i64 1))),
  ip 40 (pMov (tg 57))]
@[simp] def oc6_16_ap := ops_rule (c := oc6_16) rfl
def cc6_21 : SC := sSeq cc6_20 (sReg (seqI oc6_16))
@[simp] def cc6_21_ap := seq_rule (c := cc6_21) rfl
def cc6_22 : SC := sSeq cc6_15 cc6_21
@[simp] def cc6_22_ap := seq_rule (c := cc6_22) rfl
def cc6_23 : SC := sSeq (sReg (seqI oc6_12)) cc6_22
@[simp] def cc6_23_ap := seq_rule (c := cc6_23) rfl
def cc6_24 : SC := sLoop cc6_23
def cc6_25 : SC := sBlock 2 cc6_24
@[simp] def cc6_25_ap := block_rule (c := cc6_25) rfl
def cc6_26 : SC := sSeq (sReg (seqI oc6_11)) cc6_25
@[simp] def cc6_26_ap := seq_rule (c := cc6_26) rfl
def oc6_17 : List IS := [ip 2 (pMov (cv (.bool true)))]
@[simp] def oc6_17_ap := ops_rule (c := oc6_17) rfl
def cc6_27 : SC := sSeq (sReg (seqI oc6_17)) sRet
@[simp] def cc6_27_ap := seq_rule (c := cc6_27) rfl
def cc6_28 : SC := sSeq cc6_26 cc6_27
@[simp] def cc6_28_ap := seq_rule (c := cc6_28) rfl
def cc6_29 : SC := sSeq cc6_14 cc6_28
@[simp] def cc6_29_ap := seq_rule (c := cc6_29) rfl
def cc6_30 : SC := sSeq (sReg (seqI oc6_2)) cc6_29
@[simp] def cc6_30_ap := seq_rule (c := cc6_30) rfl
def cc6_31 : SC := sSeq (sReg (seqI oc6_1)) cc6_30
@[simp] def cc6_31_ap := seq_rule (c := cc6_31) rfl
def dc6 : DFn := ⟨cc6_31, 58, [.t 2]⟩
theorem dc6_ok : fnOf Tryz.prog 163 = some dc6 := by kernel_rfl
def oc7_1 : List IS := [ip 4 (pMov (cv (.int .u64 0)))]
@[simp] def oc7_1_ap := ops_rule (c := oc7_1) rfl
def oc7_2 : List IS := [ip 5 (pMov (tg 0))]
@[simp] def oc7_2_ap := ops_rule (c := oc7_2) rfl
def oc7_3 : List IS := [ip 7 (pBin .eql (tg 5) (cv (.int .i64 3))),
  ip 6 (pMov (tg 7))]
@[simp] def oc7_3_ap := ops_rule (c := oc7_3) rfl
def oc7_4 : List IS := [ip 8 (pMov (tg 1)),
  ip 9 (pUn .neg (tg 8)),
  ip 4 (pMov (tg 9))]
@[simp] def oc7_4_ap := ops_rule (c := oc7_4) rfl
def cc7_1 : SC := sSeq (sReg (seqI oc7_4)) sRet
@[simp] def cc7_1_ap := seq_rule (c := cc7_1) rfl
def oc7_5 : List IS := [ip 11 (pBin .eql (tg 5) (cv (.int .i64 4))),
  ip 10 (pMov (tg 11))]
@[simp] def oc7_5_ap := ops_rule (c := oc7_5) rfl
def oc7_6 : List IS := [ip 12 (pMov (tg 1)),
  ip 13 (pUn .xor (tg 12)),
  ip 4 (pMov (tg 13))]
@[simp] def oc7_6_ap := ops_rule (c := oc7_6) rfl
def cc7_2 : SC := sSeq (sReg (seqI oc7_6)) sRet
@[simp] def cc7_2_ap := seq_rule (c := cc7_2) rfl
def cc7_3 : SC := sCond (tg 10) cc7_2 sSkip
@[simp] def cc7_3_ap := cond_rule (c := cc7_3) rfl
def cc7_4 : SC := sSeq (sReg (seqI oc7_5)) cc7_3
@[simp] def cc7_4_ap := seq_rule (c := cc7_4) rfl
def cc7_5 : SC := sCond (tg 6) cc7_1 cc7_4
@[simp] def cc7_5_ap := cond_rule (c := cc7_5) rfl
def cc7_6 : SC := sSeq (sReg (seqI oc7_3)) cc7_5
@[simp] def cc7_6_ap := seq_rule (c := cc7_6) rfl
def cc7_7 : SC := sBlock 0 cc7_6
@[simp] def cc7_7_ap := block_rule (c := cc7_7) rfl
def cc7_8 : SC := sSeq (sReg (seqI oc7_2)) cc7_7
@[simp] def cc7_8_ap := seq_rule (c := cc7_8) rfl
def oc7_7 : List IS := [ip 14 (pMov (tg 1)),
  ip 15 (pBin .eql (tg 14) (cv (.int .u64 0))),
  im 3 16 (mCall 270 [(tg 15)]),
  ip 4 (pMov (tg 16))]
@[simp] def oc7_7_ap := ops_rule (c := oc7_7) rfl
def cc7_9 : SC := sSeq (sReg (seqI oc7_7)) sRet
@[simp] def cc7_9_ap := seq_rule (c := cc7_9) rfl
def cc7_10 : SC := sSeq cc7_8 cc7_9
@[simp] def cc7_10_ap := seq_rule (c := cc7_10) rfl
def cc7_11 : SC := sSeq (sReg (seqI oc7_1)) cc7_10
@[simp] def cc7_11_ap := seq_rule (c := cc7_11) rfl
def dc7 : DFn := ⟨cc7_11, 17, [.t 4]⟩
theorem dc7_ok : fnOf Tryz.prog 220 = some dc7 := by kernel_rfl
def oc8_1 : List IS := [ip 6 (pMov (cv (.int .u64 0)))]
@[simp] def oc8_1_ap := ops_rule (c := oc8_1) rfl
def oc8_2 : List IS := [ip 7 (pMov (tg 0))]
@[simp] def oc8_2_ap := ops_rule (c := oc8_2) rfl
def oc8_3 : List IS := [ip 9 (pBin .eql (tg 7) (cv (.int .i64 6))),
  ip 8 (pMov (tg 9))]
@[simp] def oc8_3_ap := ops_rule (c := oc8_3) rfl
def oc8_4 : List IS := [ip 10 (pMov (tg 1)),
  ip 11 (pMov (tg 2)),
  ip 12 (pBin .mul (tg 10) (tg 11)),
  ip 6 (pMov (tg 12))]
@[simp] def oc8_4_ap := ops_rule (c := oc8_4) rfl
def cc8_1 : SC := sSeq (sReg (seqI oc8_4)) sRet
@[simp] def cc8_1_ap := seq_rule (c := cc8_1) rfl
def oc8_5 : List IS := [ip 14 (pBin .eql (tg 7) (cv (.int .i64 7))),
  ip 13 (pMov (tg 14))]
@[simp] def oc8_5_ap := ops_rule (c := oc8_5) rfl
def oc8_6 : List IS := [ip 15 (pMov (tg 1)),
  ip 16 (pMov (tg 2)),
  ip 17 (pBin .add (tg 15) (tg 16)),
  ip 6 (pMov (tg 17))]
@[simp] def oc8_6_ap := ops_rule (c := oc8_6) rfl
def cc8_2 : SC := sSeq (sReg (seqI oc8_6)) sRet
@[simp] def cc8_2_ap := seq_rule (c := cc8_2) rfl
def oc8_7 : List IS := [ip 19 (pBin .eql (tg 7) (cv (.int .i64 8))),
  ip 18 (pMov (tg 19))]
@[simp] def oc8_7_ap := ops_rule (c := oc8_7) rfl
def oc8_8 : List IS := [ip 20 (pMov (tg 1)),
  ip 21 (pMov (tg 2)),
  ip 22 (pBin .sub (tg 20) (tg 21)),
  ip 6 (pMov (tg 22))]
@[simp] def oc8_8_ap := ops_rule (c := oc8_8) rfl
def cc8_3 : SC := sSeq (sReg (seqI oc8_8)) sRet
@[simp] def cc8_3_ap := seq_rule (c := cc8_3) rfl
def oc8_9 : List IS := [ip 24 (pBin .eql (tg 7) (cv (.int .i64 9))),
  ip 23 (pMov (tg 24))]
@[simp] def oc8_9_ap := ops_rule (c := oc8_9) rfl
def oc8_10 : List IS := [ip 25 (pMov (tg 1)),
  ip 26 (pMov (tg 2)),
  ip 27 (pBin .and (tg 26) (cv (.int .u64 63))),
  ip 28 (pShift .shl (tg 25) (tg 27)),
  ip 6 (pMov (tg 28))]
@[simp] def oc8_10_ap := ops_rule (c := oc8_10) rfl
def cc8_4 : SC := sSeq (sReg (seqI oc8_10)) sRet
@[simp] def cc8_4_ap := seq_rule (c := cc8_4) rfl
def oc8_11 : List IS := [ip 30 (pBin .eql (tg 7) (cv (.int .i64 10))),
  ip 29 (pMov (tg 30))]
@[simp] def oc8_11_ap := ops_rule (c := oc8_11) rfl
def oc8_12 : List IS := [ip 31 (pMov (tg 1)),
  ip 32 (pMov (tg 2)),
  ip 33 (pBin .and (tg 32) (cv (.int .u64 63))),
  ip 34 (pShift .shr (tg 31) (tg 33)),
  ip 6 (pMov (tg 34))]
@[simp] def oc8_12_ap := ops_rule (c := oc8_12) rfl
def cc8_5 : SC := sSeq (sReg (seqI oc8_12)) sRet
@[simp] def cc8_5_ap := seq_rule (c := cc8_5) rfl
def oc8_13 : List IS := [ip 36 (pBin .eql (tg 7) (cv (.int .i64 11))),
  ip 35 (pMov (tg 36))]
@[simp] def oc8_13_ap := ops_rule (c := oc8_13) rfl
def oc8_14 : List IS := [ip 37 (pMov (tg 1)),
  ip 38 (pMov (tg 2)),
  ip 39 (pBin .and (tg 37) (tg 38)),
  ip 6 (pMov (tg 39))]
@[simp] def oc8_14_ap := ops_rule (c := oc8_14) rfl
def cc8_6 : SC := sSeq (sReg (seqI oc8_14)) sRet
@[simp] def cc8_6_ap := seq_rule (c := cc8_6) rfl
def oc8_15 : List IS := [ip 41 (pBin .eql (tg 7) (cv (.int .i64 12))),
  ip 40 (pMov (tg 41))]
@[simp] def oc8_15_ap := ops_rule (c := oc8_15) rfl
def oc8_16 : List IS := [ip 42 (pMov (tg 1)),
  ip 43 (pMov (tg 2)),
  ip 44 (pBin .xor (tg 42) (tg 43)),
  ip 6 (pMov (tg 44))]
@[simp] def oc8_16_ap := ops_rule (c := oc8_16) rfl
def cc8_7 : SC := sSeq (sReg (seqI oc8_16)) sRet
@[simp] def cc8_7_ap := seq_rule (c := cc8_7) rfl
def oc8_17 : List IS := [ip 46 (pBin .eql (tg 7) (cv (.int .i64 13))),
  ip 45 (pMov (tg 46))]
@[simp] def oc8_17_ap := ops_rule (c := oc8_17) rfl
def oc8_18 : List IS := [ip 47 (pMov (tg 1)),
  ip 48 (pMov (tg 2)),
  ip 49 (pBin .or (tg 47) (tg 48)),
  ip 6 (pMov (tg 49))]
@[simp] def oc8_18_ap := ops_rule (c := oc8_18) rfl
def cc8_8 : SC := sSeq (sReg (seqI oc8_18)) sRet
@[simp] def cc8_8_ap := seq_rule (c := cc8_8) rfl
def oc8_19 : List IS := [ip 51 (pBin .eql (tg 7) (cv (.int .i64 14))),
  ip 50 (pMov (tg 51))]
@[simp] def oc8_19_ap := ops_rule (c := oc8_19) rfl
def oc8_20 : List IS := [ip 52 (pMov (tg 1)),
  ip 53 (pMov (tg 2)),
  ip 54 (pBin .eql (tg 52) (tg 53)),
  im 3 55 (mCall 270 [(tg 54)]),
  ip 6 (pMov (tg 55))]
@[simp] def oc8_20_ap := ops_rule (c := oc8_20) rfl
def cc8_9 : SC := sSeq (sReg (seqI oc8_20)) sRet
@[simp] def cc8_9_ap := seq_rule (c := cc8_9) rfl
def oc8_21 : List IS := [ip 57 (pBin .eql (tg 7) (cv (.int .i64 15))),
  ip 56 (pMov (tg 57))]
@[simp] def oc8_21_ap := ops_rule (c := oc8_21) rfl
def oc8_22 : List IS := [ip 58 (pMov (tg 1)),
  ip 59 (pMov (tg 2)),
  ip 60 (pBin .neq (tg 58) (tg 59)),
  im 3 61 (mCall 270 [(tg 60)]),
  ip 6 (pMov (tg 61))]
@[simp] def oc8_22_ap := ops_rule (c := oc8_22) rfl
def cc8_10 : SC := sSeq (sReg (seqI oc8_22)) sRet
@[simp] def cc8_10_ap := seq_rule (c := cc8_10) rfl
def oc8_23 : List IS := [ip 63 (pBin .eql (tg 7) (cv (.int .i64 16))),
  ip 62 (pMov (tg 63))]
@[simp] def oc8_23_ap := ops_rule (c := oc8_23) rfl
def oc8_24 : List IS := [ip 64 (pMov (tg 1)),
  ip 65 (pMov (tg 2)),
  ip 66 (pBin .lss (tg 64) (tg 65)),
  im 3 67 (mCall 270 [(tg 66)]),
  ip 6 (pMov (tg 67))]
@[simp] def oc8_24_ap := ops_rule (c := oc8_24) rfl
def cc8_11 : SC := sSeq (sReg (seqI oc8_24)) sRet
@[simp] def cc8_11_ap := seq_rule (c := cc8_11) rfl
def oc8_25 : List IS := [ip 69 (pBin .eql (tg 7) (cv (.int .i64 17))),
  ip 68 (pMov (tg 69))]
@[simp] def oc8_25_ap := ops_rule (c := oc8_25) rfl
def oc8_26 : List IS := [ip 70 (pMov (tg 1)),
  ip 71 (pMov (tg 2)),
  ip 72 (pBin .leq (tg 70) (tg 71)),
  im 3 73 (mCall 270 [(tg 72)]),
  ip 6 (pMov (tg 73))]
@[simp] def oc8_26_ap := ops_rule (c := oc8_26) rfl
def cc8_12 : SC := sSeq (sReg (seqI oc8_26)) sRet
@[simp] def cc8_12_ap := seq_rule (c := cc8_12) rfl
def oc8_27 : List IS := [ip 75 (pBin .eql (tg 7) (cv (.int .i64 18))),
  ip 74 (pMov (tg 75))]
@[simp] def oc8_27_ap := ops_rule (c := oc8_27) rfl
def oc8_28 : List IS := [ip 76 (pMov (tg 1)),
  ip 77 (pMov (tg 2)),
  ip 78 (pBin .gtr (tg 76) (tg 77)),
  im 3 79 (mCall 270 [(tg 78)]),
  ip 6 (pMov (tg 79))]
@[simp] def oc8_28_ap := ops_rule (c := oc8_28) rfl
def cc8_13 : SC := sSeq (sReg (seqI oc8_28)) sRet
@[simp] def cc8_13_ap := seq_rule (c := cc8_13) rfl
def cc8_14 : SC := sCond (tg 74) cc8_13 sSkip
@[simp] def cc8_14_ap := cond_rule (c := cc8_14) rfl
def cc8_15 : SC := sSeq (sReg (seqI oc8_27)) cc8_14
@[simp] def cc8_15_ap := seq_rule (c := cc8_15) rfl
def cc8_16 : SC := sCond (tg 68) cc8_12 cc8_15
@[simp] def cc8_16_ap := cond_rule (c := cc8_16) rfl
def cc8_17 : SC := sSeq (sReg (seqI oc8_25)) cc8_16
@[simp] def cc8_17_ap := seq_rule (c := cc8_17) rfl
def cc8_18 : SC := sCond (tg 62) cc8_11 cc8_17
@[simp] def cc8_18_ap := cond_rule (c := cc8_18) rfl
def cc8_19 : SC := sSeq (sReg (seqI oc8_23)) cc8_18
@[simp] def cc8_19_ap := seq_rule (c := cc8_19) rfl
def cc8_20 : SC := sCond (tg 56) cc8_10 cc8_19
@[simp] def cc8_20_ap := cond_rule (c := cc8_20) rfl
def cc8_21 : SC := sSeq (sReg (seqI oc8_21)) cc8_20
@[simp] def cc8_21_ap := seq_rule (c := cc8_21) rfl
def cc8_22 : SC := sCond (tg 50) cc8_9 cc8_21
@[simp] def cc8_22_ap := cond_rule (c := cc8_22) rfl
def cc8_23 : SC := sSeq (sReg (seqI oc8_19)) cc8_22
@[simp] def cc8_23_ap := seq_rule (c := cc8_23) rfl
def cc8_24 : SC := sCond (tg 45) cc8_8 cc8_23
@[simp] def cc8_24_ap := cond_rule (c := cc8_24) rfl
def cc8_25 : SC := sSeq (sReg (seqI oc8_17)) cc8_24
@[simp] def cc8_25_ap := seq_rule (c := cc8_25) rfl
def cc8_26 : SC := sCond (tg 40) cc8_7 cc8_25
@[simp] def cc8_26_ap := cond_rule (c := cc8_26) rfl
def cc8_27 : SC := sSeq (sReg (seqI oc8_15)) cc8_26
@[simp] def cc8_27_ap := seq_rule (c := cc8_27) rfl
def cc8_28 : SC := sCond (tg 35) cc8_6 cc8_27
@[simp] def cc8_28_ap := cond_rule (c := cc8_28) rfl
def cc8_29 : SC := sSeq (sReg (seqI oc8_13)) cc8_28
@[simp] def cc8_29_ap := seq_rule (c := cc8_29) rfl
def cc8_30 : SC := sCond (tg 29) cc8_5 cc8_29
@[simp] def cc8_30_ap := cond_rule (c := cc8_30) rfl
def cc8_31 : SC := sSeq (sReg (seqI oc8_11)) cc8_30
@[simp] def cc8_31_ap := seq_rule (c := cc8_31) rfl
def cc8_32 : SC := sCond (tg 23) cc8_4 cc8_31
@[simp] def cc8_32_ap := cond_rule (c := cc8_32) rfl
def cc8_33 : SC := sSeq (sReg (seqI oc8_9)) cc8_32
@[simp] def cc8_33_ap := seq_rule (c := cc8_33) rfl
def cc8_34 : SC := sCond (tg 18) cc8_3 cc8_33
@[simp] def cc8_34_ap := cond_rule (c := cc8_34) rfl
def cc8_35 : SC := sSeq (sReg (seqI oc8_7)) cc8_34
@[simp] def cc8_35_ap := seq_rule (c := cc8_35) rfl
def cc8_36 : SC := sCond (tg 13) cc8_2 cc8_35
@[simp] def cc8_36_ap := cond_rule (c := cc8_36) rfl
def cc8_37 : SC := sSeq (sReg (seqI oc8_5)) cc8_36
@[simp] def cc8_37_ap := seq_rule (c := cc8_37) rfl
def cc8_38 : SC := sCond (tg 8) cc8_1 cc8_37
@[simp] def cc8_38_ap := cond_rule (c := cc8_38) rfl
def cc8_39 : SC := sSeq (sReg (seqI oc8_3)) cc8_38
@[simp] def cc8_39_ap := seq_rule (c := cc8_39) rfl
def cc8_40 : SC := sBlock 0 cc8_39
@[simp] def cc8_40_ap := block_rule (c := cc8_40) rfl
def cc8_41 : SC := sSeq (sReg (seqI oc8_2)) cc8_40
@[simp] def cc8_41_ap := seq_rule (c := cc8_41) rfl
def oc8_29 : List IS := [ip 80 (pMov (tg 1)),
  ip 81 (pMov (tg 2)),
  ip 82 (pBin .geq (tg 80) (tg 81)),
  im 3 83 (mCall 270 [(tg 82)]),
  ip 6 (pMov (tg 83))]
@[simp] def oc8_29_ap := ops_rule (c := oc8_29) rfl
def cc8_42 : SC := sSeq (sReg (seqI oc8_29)) sRet
@[simp] def cc8_42_ap := seq_rule (c := cc8_42) rfl
def cc8_43 : SC := sSeq cc8_41 cc8_42
@[simp] def cc8_43_ap := seq_rule (c := cc8_43) rfl
def cc8_44 : SC := sSeq (sReg (seqI oc8_1)) cc8_43
@[simp] def cc8_44_ap := seq_rule (c := cc8_44) rfl
def dc8 : DFn := ⟨cc8_44, 84, [.t 6]⟩
theorem dc8_ok : fnOf Tryz.prog 221 = some dc8 := by kernel_rfl
def oc9_1 : List IS := [ip 2 (pMov (cv (.int .u64 0)))]
@[simp] def oc9_1_ap := ops_rule (c := oc9_1) rfl
def oc9_2 : List IS := [ip 3 (pMov (tg 0))]
@[simp] def oc9_2_ap := ops_rule (c := oc9_2) rfl
def oc9_3 : List IS := [ip 2 (pMov (cv (.int .u64 1)))]
@[simp] def oc9_3_ap := ops_rule (c := oc9_3) rfl
def cc9_1 : SC := sSeq (sReg (seqI oc9_3)) sRet
@[simp] def cc9_1_ap := seq_rule (c := cc9_1) rfl
def cc9_2 : SC := sCond (tg 3) cc9_1 sSkip
@[simp] def cc9_2_ap := cond_rule (c := cc9_2) rfl
def cc9_3 : SC := sSeq (sReg (seqI oc9_2)) cc9_2
@[simp] def cc9_3_ap := seq_rule (c := cc9_3) rfl
def oc9_4 : List IS := [ip 2 (pMov (cv (.int .u64 0)))]
@[simp] def oc9_4_ap := ops_rule (c := oc9_4) rfl
def cc9_4 : SC := sSeq (sReg (seqI oc9_4)) sRet
@[simp] def cc9_4_ap := seq_rule (c := cc9_4) rfl
def cc9_5 : SC := sSeq cc9_3 cc9_4
@[simp] def cc9_5_ap := seq_rule (c := cc9_5) rfl
def cc9_6 : SC := sSeq (sReg (seqI oc9_1)) cc9_5
@[simp] def cc9_6_ap := seq_rule (c := cc9_6) rfl
def dc9 : DFn := ⟨cc9_6, 4, [.t 2]⟩
theorem dc9_ok : fnOf Tryz.prog 270 = some dc9 := by kernel_rfl
end
end Go.Sx
