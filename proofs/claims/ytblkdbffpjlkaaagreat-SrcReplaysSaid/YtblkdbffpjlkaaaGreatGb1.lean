/- Compiled code. -/
import Derived.Test.YtblkdbffpjlkaaaGreatGb
import Derived.Test.YtblkdbffpjlkaaaGreatGa
import Derived.Test.YtblkdbffpjlkaaaGreatProg
import Derived.KernelRfl
set_option linter.unusedVariables false
set_option linter.unusedSimpArgs false
set_option linter.defProp false
/- Compiled code: printed by a program. -/
namespace Go.Sx
open Go.Dx Go.Proofs
noncomputable section
def oa0_1 : List IS := [im 1 4 (mBox (tg 0)),
  ip 8 (pMov (cv (.bool false)))]
@[simp] def oa0_1_ap := ops_rule (c := oa0_1) rfl
def oa0_2 : List IS := [il 20 (tg 4) (mLoadN 2 (tg 4)),
  ip 21 (pMov (tg 1)),
  ip 22 (pMov (tg 2)),
  ip 23 (pMov (tg 3)),
  im 3 24 (mCall 5 [(tg 20), (tg 21), (tg 22), (tg 23)]),
  ip 19 (pMov (tg 24)),
  ip 25 (pExtract (tg 19) 0),
  ip 26 (pExtract (tg 19) 1),
  im 1 9 (mAlloc [(.slice none 0 0), (.slice none 0 0), (.slice none 0 0), (.slice none 0 0), (.slice none 0 0), (.slice none 0 0), (.int .i64 0), (.int .i64 0), (.int .i64 0)]),
  im0 3 (mStore 9 (tg 9) (tg 25)),
  ip 10 (pMov (tg 26))]
@[simp] def oa0_2_ap := ops_rule (c := oa0_2) rfl
def oa0_3 : List IS := [il 27 (tg 4) (mLoadN 2 (tg 4)),
  im 3 28 (mCall 6 [(tg 27)]),
  im 1 11 (mAlloc [(.int .i64 0), (.slice none 0 0)]),
  im0 3 (mStore 2 (tg 11) (tg 28))]
@[simp] def oa0_3_ap := ops_rule (c := oa0_3) rfl
def oa0_4 : List IS := [im 1 29 (mBslice 1 0 (rep 0 [(.int .u64 0)]) []),
  ip 30 (pMov (tg 2)),
  im 3 31 (mAppend 1 8 (tg 29) (tg 30)),
  im 1 32 (mBslice 1 2 (rep 2 [(.int .u64 0)]) [(0, 1, (cv (.int .u64 7))), (1, 1, (cv (.int .u64 8)))]),
  im 3 33 (mAppend 1 8 (tg 31) (tg 32)),
  ip 12 (pMov (tg 33))]
@[simp] def oa0_4_ap := ops_rule (c := oa0_4) rfl
def oa0_5 : List IS := [ip 13 (pMov (cv (.int .i64 0)))]
@[simp] def oa0_5_ap := ops_rule (c := oa0_5) rfl
def oa0_6 : List IS := [ip 34 (pMov (tg 13)),
  ip 35 (pBin .lss (tg 34) (cv (.int .i64 2)))]
@[simp] def oa0_6_ap := ops_rule (c := oa0_6) rfl
def ca0_1 : SC := sCond (tg 35) sSkip (sExit 0)
@[simp] def ca0_1_ap := cond_rule (c := ca0_1) rfl
def ca0_2 : SC := sSeq (sReg (seqI oa0_6)) ca0_1
@[simp] def ca0_2_ap := seq_rule (c := ca0_2) rfl
def oa0_7 : List DA := [⟨CI.load (tg 11) (mLoadN 2 (tg 11)), (some 39), none, 0, []⟩,
  ⟨CI.pure (pMov (tg 1)), (some 40), none, 1, []⟩,
  ⟨CI.pure (pMov (tg 12)), (some 41), none, 2, []⟩,
  ⟨CI.pure (pMov (tg 2)), (some 42), none, 3, []⟩,
  ⟨CI.pure (pLen (tg 42)), (some 43), none, 4, []⟩,
  ⟨CI.pure (pSlice 1 (tg 41) none (some (tg 43)) none), (some 44), none, 5, []⟩,
  ⟨CI.pure (pMov (tg 3)), (some 45), none, 6, []⟩,
  ⟨CI.mem 3 (mCall 7 [(tg 39), (tg 40), (tg 44), (tg 45)]), (some 46), none, 7, []⟩,
  ⟨CI.pure (pMov (tg 46)), (some 38), none, 8, []⟩,
  ⟨CI.pure (pExtract (tg 38) 0), (some 47), none, 9, []⟩,
  ⟨CI.pure (pExtract (tg 38) 1), (some 48), none, 10, []⟩,
  ⟨CI.mem 1 (mAlloc [(.slice none 0 0), (.slice none 0 0), (.slice none 0 0), (.slice none 0 0), (.slice none 0 0), (.slice none 0 0), (.int .i64 0), (.int .i64 0), (.int .i64 0)]), (some 14), none, 11, []⟩,
  ⟨CI.mem 3 (mStore 9 (tg 14) (tg 47)), none, none, 12, []⟩,
  ⟨CI.pure (pMov (tg 48)), (some 15), none, 13, []⟩]
@[simp] def oa0_7_ap := das_rule (c := oa0_7) rfl
def oa0_8 : List IS := [ip 49 (pMov (tg 15)),
  ip 50 (pMov (tg 10)),
  ip 51 (pBin .neq (tg 49) (tg 50)),
  ip 52 (pMov (tg 51)),
  gd 52 false (some 53) (il 53 (tg 14) (mLoadN 9 (tg 14))),
  gd 52 false (some 54) (il 54 (tg 9) (mLoadN 9 (tg 9))),
  gd 52 false (some 55) (im 3 55 (mCall 8 [(tg 53), (tg 54)])),
  gd 52 false (some 56) (ip 56 (pUn .not (tg 55))),
  ip 57 (pPick (tg 52) (cv (.bool true)) (tg 56))]
@[simp] def oa0_8_ap := ops_rule (c := oa0_8) rfl
def oa0_9 : List IS := [ip 8 (pMov (cv (.bool false)))]
def ca0_3 : SC := sSeq (sReg (seqI oa0_9)) sRet
def ca0_4 : SC := sCond (tg 57) ca0_3 sSkip
@[simp] def ca0_4_ap := cond_rule (c := ca0_4) rfl
def ca0_5 : SC := sSeq (sReg (seqI oa0_8)) ca0_4
@[simp] def ca0_5_ap := seq_rule (c := ca0_5) rfl
def oa0_10 : List IS := [ip 16 (pMov (cv (.int .i64 0)))]
@[simp] def oa0_10_ap := ops_rule (c := oa0_10) rfl
def oa0_11 : List IS := [ip 58 (pMov (tg 16)),
  ip 59 (pFaddr 0 (tg 14)),
  il 60 (tg 59) (mLoad1 (tg 59)),
  ip 61 (pLen (tg 60)),
  ip 62 (pBin .lss (tg 58) (tg 61))]
@[simp] def oa0_11_ap := ops_rule (c := oa0_11) rfl
def ca0_6 : SC := sCond (tg 62) sSkip (sExit 2)
@[simp] def ca0_6_ap := cond_rule (c := ca0_6) rfl
def ca0_7 : SC := sSeq (sReg (seqI oa0_11)) ca0_6
@[simp] def ca0_7_ap := seq_rule (c := ca0_7) rfl
def oa0_12 : List IS := [ip 65 (pFaddr 0 (tg 14)),
  il 66 (tg 65) (mLoad1 (tg 65)),
  ip 67 (pMov (tg 16)),
  ip 68 (pBuild [(.int .i64 0), (.int .i64 0), (.int .i64 0), (.int .u64 0), (.int .i64 0)] [(2, 1, (cv (.int .i64 99)))]),
  ip 69 (pIaddrS 5 (tg 66) (tg 67)),
  im0 3 (mStore 5 (tg 69) (tg 68))]
@[simp] def oa0_12_ap := ops_rule (c := oa0_12) rfl
def ca0_8 : SC := sBlock 3 (sReg (seqI oa0_12))
@[simp] def ca0_8_ap := block_rule (c := ca0_8) rfl
def oa0_13 : List IS := [ip 63 (pMov (tg 16)),
  ip 64 (pBin .add (tg 63) (cv (.int .i64 1))),
  ip 16 (pMov (tg 64))]
@[simp] def oa0_13_ap := ops_rule (c := oa0_13) rfl
def ca0_9 : SC := sSeq ca0_8 (sReg (seqI oa0_13))
@[simp] def ca0_9_ap := seq_rule (c := ca0_9) rfl
def ca0_10 : SC := sSeq ca0_7 ca0_9
@[simp] def ca0_10_ap := seq_rule (c := ca0_10) rfl
def ca0_11 : SC := sLoop ca0_10
def ca0_12 : SC := sBlock 2 ca0_11
@[simp] def ca0_12_ap := block_rule (c := ca0_12) rfl
def ca0_13 : SC := sSeq (sReg (seqI oa0_10)) ca0_12
@[simp] def ca0_13_ap := seq_rule (c := ca0_13) rfl
def oa0_14 : List IS := [ip 17 (pMov (cv (.int .i64 0)))]
@[simp] def oa0_14_ap := ops_rule (c := oa0_14) rfl
def oa0_15 : List IS := [ip 70 (pMov (tg 17)),
  ip 71 (pFaddr 5 (tg 14)),
  il 72 (tg 71) (mLoad1 (tg 71)),
  ip 73 (pLen (tg 72)),
  ip 74 (pBin .lss (tg 70) (tg 73))]
@[simp] def oa0_15_ap := ops_rule (c := oa0_15) rfl
def ca0_14 : SC := sCond (tg 74) sSkip (sExit 4)
@[simp] def ca0_14_ap := cond_rule (c := ca0_14) rfl
def ca0_15 : SC := sSeq (sReg (seqI oa0_15)) ca0_14
@[simp] def ca0_15_ap := seq_rule (c := ca0_15) rfl
def oa0_16 : List IS := [ip 77 (pFaddr 5 (tg 14)),
  il 78 (tg 77) (mLoad1 (tg 77)),
  ip 79 (pMov (tg 17)),
  ip 80 (pIaddrS 1 (tg 78) (tg 79)),
  im0 3 (mStore 1 (tg 80) (cv (.int .u64 99)))]
@[simp] def oa0_16_ap := ops_rule (c := oa0_16) rfl
def ca0_16 : SC := sBlock 5 (sReg (seqI oa0_16))
@[simp] def ca0_16_ap := block_rule (c := ca0_16) rfl
def oa0_17 : List IS := [ip 75 (pMov (tg 17)),
  ip 76 (pBin .add (tg 75) (cv (.int .i64 1))),
  ip 17 (pMov (tg 76))]
@[simp] def oa0_17_ap := ops_rule (c := oa0_17) rfl
def ca0_17 : SC := sSeq ca0_16 (sReg (seqI oa0_17))
@[simp] def ca0_17_ap := seq_rule (c := ca0_17) rfl
def ca0_18 : SC := sSeq ca0_15 ca0_17
@[simp] def ca0_18_ap := seq_rule (c := ca0_18) rfl
def ca0_19 : SC := sLoop ca0_18
def ca0_20 : SC := sBlock 4 ca0_19
@[simp] def ca0_20_ap := block_rule (c := ca0_20) rfl
def ca0_21 : SC := sSeq (sReg (seqI oa0_14)) ca0_20
@[simp] def ca0_21_ap := seq_rule (c := ca0_21) rfl
def oa0_18 : List IS := [ip 18 (pMov (cv (.int .i64 0)))]
@[simp] def oa0_18_ap := ops_rule (c := oa0_18) rfl
def oa0_19 : List IS := [ip 81 (pMov (tg 18)),
  ip 82 (pFaddr 1 (tg 14)),
  il 83 (tg 82) (mLoad1 (tg 82)),
  ip 84 (pLen (tg 83)),
  ip 85 (pBin .lss (tg 81) (tg 84))]
@[simp] def oa0_19_ap := ops_rule (c := oa0_19) rfl
def ca0_22 : SC := sCond (tg 85) sSkip (sExit 6)
@[simp] def ca0_22_ap := cond_rule (c := ca0_22) rfl
def ca0_23 : SC := sSeq (sReg (seqI oa0_19)) ca0_22
@[simp] def ca0_23_ap := seq_rule (c := ca0_23) rfl
def oa0_20 : List IS := [ip 88 (pFaddr 1 (tg 14)),
  il 89 (tg 88) (mLoad1 (tg 88)),
  ip 90 (pMov (tg 18)),
  ip 91 (pBuild [(.int .i64 0), (.int .i64 0)] [(0, 1, (cv (.int .i64 99)))]),
  ip 92 (pIaddrS 2 (tg 89) (tg 90)),
  im0 3 (mStore 2 (tg 92) (tg 91))]
@[simp] def oa0_20_ap := ops_rule (c := oa0_20) rfl
def ca0_24 : SC := sBlock 7 (sReg (seqI oa0_20))
@[simp] def ca0_24_ap := block_rule (c := ca0_24) rfl
def oa0_21 : List IS := [ip 86 (pMov (tg 18)),
  ip 87 (pBin .add (tg 86) (cv (.int .i64 1))),
  ip 18 (pMov (tg 87))]
@[simp] def oa0_21_ap := ops_rule (c := oa0_21) rfl
def ca0_25 : SC := sSeq ca0_24 (sReg (seqI oa0_21))
@[simp] def ca0_25_ap := seq_rule (c := ca0_25) rfl
def ca0_26 : SC := sSeq ca0_23 ca0_25
@[simp] def ca0_26_ap := seq_rule (c := ca0_26) rfl
def ca0_27 : SC := sLoop ca0_26
def ca0_28 : SC := sBlock 6 ca0_27
@[simp] def ca0_28_ap := block_rule (c := ca0_28) rfl
def ca0_29 : SC := sSeq (sReg (seqI oa0_18)) ca0_28
@[simp] def ca0_29_ap := seq_rule (c := ca0_29) rfl
def ca0_30 : SC := sSeq ca0_21 ca0_29
@[simp] def ca0_30_ap := seq_rule (c := ca0_30) rfl
def ca0_31 : SC := sSeq ca0_13 ca0_30
@[simp] def ca0_31_ap := seq_rule (c := ca0_31) rfl
def ca0_32 : SC := sSeq ca0_5 ca0_31
@[simp] def ca0_32_ap := seq_rule (c := ca0_32) rfl
def ca0_33 : SC := sSeq (sAny oa0_7) ca0_32
@[simp] def ca0_33_ap := seq_rule (c := ca0_33) rfl
def ca0_34 : SC := sBlock 1 ca0_33
@[simp] def ca0_34_ap := block_rule (c := ca0_34) rfl
def oa0_22 : List IS := [ip 36 (pMov (tg 13)),
  ip 37 (pBin .add (tg 36) (cv (.int .i64 1))),
  ip 13 (pMov (tg 37))]
@[simp] def oa0_22_ap := ops_rule (c := oa0_22) rfl
def ca0_35 : SC := sSeq ca0_34 (sReg (seqI oa0_22))
@[simp] def ca0_35_ap := seq_rule (c := ca0_35) rfl
def ca0_36 : SC := sSeq ca0_2 ca0_35
@[simp] def ca0_36_ap := seq_rule (c := ca0_36) rfl
def ca0_37 : SC := sLoop ca0_36
def ca0_38 : SC := sBlock 0 ca0_37
@[simp] def ca0_38_ap := block_rule (c := ca0_38) rfl
def ca0_39 : SC := sSeq (sReg (seqI oa0_5)) ca0_38
@[simp] def ca0_39_ap := seq_rule (c := ca0_39) rfl
def oa0_23 : List IS := [il 93 (tg 11) (mLoadN 2 (tg 11)),
  il 94 (tg 4) (mLoadN 2 (tg 4)),
  im 3 95 (mCall 9 [(tg 93), (tg 94)]),
  ip 96 (pMov (tg 95)),
  gd 96 true (some 97) (ip 97 (pMov (tg 12))),
  gd 96 true (some 98) (ip 98 (pMov (tg 2))),
  gd 96 true (some 99) (ip 99 (pLen (tg 98))),
  gd 96 true (some 100) (ip 100 (pIaddrS 1 (tg 97) (tg 99))),
  gd 96 true (some 101) (il 101 (tg 100) (mLoad1 (tg 100))),
  gd 96 true (some 102) (ip 102 (pBin .eql (tg 101) (cv (.int .u64 7)))),
  ip 103 (pPick (tg 96) (tg 102) (cv (.bool false))),
  ip 104 (pMov (tg 103)),
  gd 104 true (some 105) (ip 105 (pMov (tg 12))),
  gd 104 true (some 106) (ip 106 (pMov (tg 2))),
  gd 104 true (some 107) (ip 107 (pLen (tg 106))),
  gd 104 true (some 108) (ip 108 (pSlice 1 (tg 105) none (some (tg 107)) none)),
  gd 104 true (some 109) (ip 109 (pMov (tg 2))),
  gd 104 true (some 110) (im 3 110 (mCall 10 [(tg 108), (tg 109)])),
  ip 111 (pPick (tg 104) (tg 110) (cv (.bool false))),
  ip 112 (pMov (tg 111)),
  gd 112 true (some 113) (im 3 113 (mCall 11 [])),
  ip 114 (pPick (tg 112) (tg 113) (cv (.bool false))),
  ip 8 (pMov (tg 114))]
@[simp] def oa0_23_ap := ops_rule (c := oa0_23) rfl
def ca0_40 : SC := sSeq (sReg (seqI oa0_23)) sRet
@[simp] def ca0_40_ap := seq_rule (c := ca0_40) rfl
def ca0_41 : SC := sSeq ca0_39 ca0_40
@[simp] def ca0_41_ap := seq_rule (c := ca0_41) rfl
def ca0_42 : SC := sSeq (sReg (seqI oa0_4)) ca0_41
@[simp] def ca0_42_ap := seq_rule (c := ca0_42) rfl
def ca0_43 : SC := sSeq (sReg (seqI oa0_3)) ca0_42
@[simp] def ca0_43_ap := seq_rule (c := ca0_43) rfl
def ca0_44 : SC := sSeq (sReg (seqI oa0_2)) ca0_43
@[simp] def ca0_44_ap := seq_rule (c := ca0_44) rfl
def ca0_45 : SC := sSeq (sReg (seqI oa0_1)) ca0_44
@[simp] def ca0_45_ap := seq_rule (c := ca0_45) rfl
def da0 : DFn := ⟨ca0_45, 115, [.t 8]⟩
theorem da0_ok : fnOf Tryz.prog 3 = some da0 := by kernel_rfl
def oa1_1 : List IS := [im 1 4 (mBox (tg 0)),
  im 1 8 (mAlloc [(.slice none 0 0), (.slice none 0 0), (.slice none 0 0), (.slice none 0 0), (.slice none 0 0), (.slice none 0 0), (.int .i64 0), (.int .i64 0), (.int .i64 0)]),
  ip 9 (pMov (cv (.int .i64 0)))]
@[simp] def oa1_1_ap := ops_rule (c := oa1_1) rfl
def oa1_2 : List IS := [il 15 (tg 4) (mLoadN 2 (tg 4)),
  im 3 16 (mCall 13 [(tg 15)]),
  ip 17 (pUn .not (tg 16)),
  ip 18 (pMov (tg 17)),
  gd 18 false (some 19) (ip 19 (pMov (tg 1))),
  gd 18 false (some 20) (ip 20 (pBin .lss (tg 19) (cv (.int .i64 0)))),
  ip 21 (pPick (tg 18) (cv (.bool true)) (tg 20)),
  ip 22 (pMov (tg 21)),
  gd 22 false (some 23) (ip 23 (pMov (tg 1))),
  gd 22 false (some 24) (ip 24 (pFaddr 1 (tg 4))),
  gd 22 false (some 25) (il 25 (tg 24) (mLoad1 (tg 24))),
  gd 22 false (some 26) (ip 26 (pLen (tg 25))),
  gd 22 false (some 27) (ip 27 (pBin .geq (tg 23) (tg 26))),
  ip 28 (pPick (tg 22) (cv (.bool true)) (tg 27)),
  ip 29 (pMov (tg 28)),
  gd 29 false (some 30) (ip 30 (pMov (tg 3))),
  gd 29 false (some 31) (ip 31 (pBin .lss (tg 30) (cv (.int .i64 0)))),
  ip 32 (pPick (tg 29) (cv (.bool true)) (tg 31)),
  ip 33 (pMov (tg 32)),
  gd 33 false (some 34) (ip 34 (pMov (tg 3))),
  gd 33 false (some 35) (ip 35 (pBin .gtr (tg 34) (cv (.int .i64 100000)))),
  ip 36 (pPick (tg 33) (cv (.bool true)) (tg 35))]
@[simp] def oa1_2_ap := ops_rule (c := oa1_2) rfl
def oa1_3 : List IS := [ip 37 (pBuild [(.slice none 0 0), (.slice none 0 0), (.slice none 0 0), (.slice none 0 0), (.slice none 0 0), (.slice none 0 0), (.int .i64 0), (.int .i64 0), (.int .i64 0)] []),
  im0 3 (mStore 9 (tg 8) (tg 37)),
  ip 9 (pMov (cv (.int .i64 1)))]
@[simp] def oa1_3_ap := ops_rule (c := oa1_3) rfl
def ca1_1 : SC := sSeq (sReg (seqI oa1_3)) sRet
@[simp] def ca1_1_ap := seq_rule (c := ca1_1) rfl
def ca1_2 : SC := sCond (tg 36) ca1_1 sSkip
@[simp] def ca1_2_ap := cond_rule (c := ca1_2) rfl
def ca1_3 : SC := sSeq (sReg (seqI oa1_2)) ca1_2
@[simp] def ca1_3_ap := seq_rule (c := ca1_3) rfl
def oa1_4 : List IS := [ip 38 (pFaddr 1 (tg 4)),
  il 39 (tg 38) (mLoad1 (tg 38)),
  ip 40 (pMov (tg 1)),
  ip 41 (pIaddrS 2 (tg 39) (tg 40)),
  il 42 (tg 41) (mLoadN 2 (tg 41)),
  im 3 43 (mCall 16 [(tg 42)]),
  im 1 10 (mAlloc [(.int .i64 0), (.slice none 0 0), (.int .i64 0), (.slice none 0 0)]),
  im0 3 (mStore 4 (tg 10) (tg 43))]
@[simp] def oa1_4_ap := ops_rule (c := oa1_4) rfl
def oa1_5 : List IS := [im 1 11 (mAlloc [(.slice none 0 0), (.slice none 0 0), (.slice none 0 0), (.slice none 0 0), (.slice none 0 0), (.slice none 0 0), (.int .i64 0), (.int .i64 0), (.int .i64 0)])]
@[simp] def oa1_5_ap := ops_rule (c := oa1_5) rfl
def oa1_6 : List IS := [ip 44 (pFaddr 2 (tg 10)),
  il 45 (tg 44) (mLoad1 (tg 44)),
  ip 46 (pFaddr 0 (tg 10)),
  ip 47 (pFaddr 1 (tg 46)),
  il 48 (tg 47) (mLoad1 (tg 47)),
  ip 49 (pLen (tg 48)),
  ip 50 (pBin .lss (tg 45) (tg 49))]
@[simp] def oa1_6_ap := ops_rule (c := oa1_6) rfl
def ca1_4 : SC := sCond (tg 50) sSkip (sExit 0)
@[simp] def ca1_4_ap := cond_rule (c := ca1_4) rfl
def ca1_5 : SC := sSeq (sReg (seqI oa1_6)) ca1_4
@[simp] def ca1_5_ap := seq_rule (c := ca1_5) rfl
def oa1_7 : List IS := [ip 51 (pMov (tg 3)),
  ip 52 (pBin .eql (tg 51) (cv (.int .i64 0)))]
@[simp] def oa1_7_ap := ops_rule (c := oa1_7) rfl
def oa1_8 : List IS := [ip 53 (pFaddr 6 (tg 11)),
  im0 3 (mStore 1 (tg 53) (cv (.int .i64 4)))]
@[simp] def oa1_8_ap := ops_rule (c := oa1_8) rfl
def oa1_9 : List IS := [il 54 (tg 11) (mLoadN 9 (tg 11)),
  im0 3 (mStore 9 (tg 8) (tg 54)),
  ip 9 (pMov (cv (.int .i64 0)))]
@[simp] def oa1_9_ap := ops_rule (c := oa1_9) rfl
def ca1_6 : SC := sSeq (sReg (seqI oa1_9)) sRet
@[simp] def ca1_6_ap := seq_rule (c := ca1_6) rfl
def ca1_7 : SC := sSeq (sReg (seqI oa1_8)) ca1_6
@[simp] def ca1_7_ap := seq_rule (c := ca1_7) rfl
def ca1_8 : SC := sCond (tg 52) ca1_7 sSkip
@[simp] def ca1_8_ap := cond_rule (c := ca1_8) rfl
def ca1_9 : SC := sSeq (sReg (seqI oa1_7)) ca1_8
@[simp] def ca1_9_ap := seq_rule (c := ca1_9) rfl
def oa1_10 : List IS := [ip 55 (pMov (tg 3)),
  ip 56 (pBin .sub (tg 55) (cv (.int .i64 1))),
  ip 3 (pMov (tg 56))]
@[simp] def oa1_10_ap := ops_rule (c := oa1_10) rfl
def oa1_11 : List IS := [il 57 (tg 10) (mLoadN 4 (tg 10)),
  im 3 58 (mCall 23 [(tg 57)])]
@[simp] def oa1_11_ap := ops_rule (c := oa1_11) rfl
def oa1_12 : List IS := [il 59 (tg 10) (mLoadN 4 (tg 10)),
  im 3 60 (mCall 24 [(tg 59)]),
  im0 3 (mStore 4 (tg 10) (tg 60))]
@[simp] def oa1_12_ap := ops_rule (c := oa1_12) rfl
def ca1_10 : SC := sSeq (sReg (seqI oa1_12)) (sExit 1)
@[simp] def ca1_10_ap := seq_rule (c := ca1_10) rfl
def ca1_11 : SC := sCond (tg 58) ca1_10 sSkip
@[simp] def ca1_11_ap := cond_rule (c := ca1_11) rfl
def ca1_12 : SC := sSeq (sReg (seqI oa1_11)) ca1_11
@[simp] def ca1_12_ap := seq_rule (c := ca1_12) rfl
def oa1_13 : List IS := [il 61 (tg 10) (mLoadN 4 (tg 10)),
  im 3 62 (mCall 25 [(tg 61)]),
  im 1 12 (mAlloc [(.int .i64 0), (.int .i64 0), (.int .i64 0), (.int .u64 0), (.bool false), (.bool false)]),
  im0 3 (mStore 6 (tg 12) (tg 62))]
@[simp] def oa1_13_ap := ops_rule (c := oa1_13) rfl
def oa1_14 : List IS := [ip 13 (pMov (cv (.int .u64 0)))]
@[simp] def oa1_14_ap := ops_rule (c := oa1_14) rfl
def oa1_15 : List IS := [ip 63 (pFaddr 0 (tg 12)),
  il 64 (tg 63) (mLoad1 (tg 63))]
@[simp] def oa1_15_ap := ops_rule (c := oa1_15) rfl
def oa1_16 : List IS := [ip 73 (pBin .eql (tg 64) (cv (.int .i64 1))),
  ip 72 (pMov (tg 73))]
@[simp] def oa1_16_ap := ops_rule (c := oa1_16) rfl
def oa1_17 : List IS := [ip 74 (pFaddr 8 (tg 11)),
  il 75 (tg 74) (mLoad1 (tg 74)),
  ip 76 (pMov (tg 2)),
  ip 77 (pLen (tg 76)),
  ip 78 (pBin .eql (tg 75) (tg 77))]
@[simp] def oa1_17_ap := ops_rule (c := oa1_17) rfl
def oa1_18 : List IS := [ip 79 (pFaddr 6 (tg 11)),
  im0 3 (mStore 1 (tg 79) (cv (.int .i64 2)))]
@[simp] def oa1_18_ap := ops_rule (c := oa1_18) rfl
def oa1_19 : List IS := [ip 80 (pFaddr 1 (tg 12)),
  il 81 (tg 80) (mLoad1 (tg 80)),
  ip 82 (pFaddr 7 (tg 11)),
  im0 3 (mStore 1 (tg 82) (tg 81))]
@[simp] def oa1_19_ap := ops_rule (c := oa1_19) rfl
def oa1_20 : List IS := [il 83 (tg 11) (mLoadN 9 (tg 11)),
  im0 3 (mStore 9 (tg 8) (tg 83)),
  ip 9 (pMov (cv (.int .i64 0)))]
@[simp] def oa1_20_ap := ops_rule (c := oa1_20) rfl
def ca1_13 : SC := sSeq (sReg (seqI oa1_20)) sRet
@[simp] def ca1_13_ap := seq_rule (c := ca1_13) rfl
def ca1_14 : SC := sSeq (sReg (seqI oa1_19)) ca1_13
@[simp] def ca1_14_ap := seq_rule (c := ca1_14) rfl
def ca1_15 : SC := sSeq (sReg (seqI oa1_18)) ca1_14
@[simp] def ca1_15_ap := seq_rule (c := ca1_15) rfl
def ca1_16 : SC := sCond (tg 78) ca1_15 sSkip
@[simp] def ca1_16_ap := cond_rule (c := ca1_16) rfl
def ca1_17 : SC := sSeq (sReg (seqI oa1_17)) ca1_16
@[simp] def ca1_17_ap := seq_rule (c := ca1_17) rfl
def oa1_21 : List IS := [ip 84 (pMov (tg 2)),
  ip 85 (pFaddr 8 (tg 11)),
  il 86 (tg 85) (mLoad1 (tg 85)),
  ip 87 (pIaddrS 1 (tg 84) (tg 86)),
  il 88 (tg 87) (mLoad1 (tg 87)),
  ip 13 (pMov (tg 88))]
@[simp] def oa1_21_ap := ops_rule (c := oa1_21) rfl
def oa1_22 : List IS := [ip 89 (pFaddr 8 (tg 11)),
  il 90 (tg 89) (mLoad1 (tg 89)),
  ip 91 (pBin .add (tg 90) (cv (.int .i64 1))),
  ip 92 (pFaddr 8 (tg 11)),
  im0 3 (mStore 1 (tg 92) (tg 91))]
@[simp] def oa1_22_ap := ops_rule (c := oa1_22) rfl
def oa1_23 : List IS := [ip 93 (pFaddr 0 (tg 11)),
  il 94 (tg 93) (mLoad1 (tg 93)),
  ip 95 (pMov (tg 1)),
  ip 96 (pFaddr 1 (tg 12)),
  il 97 (tg 96) (mLoad1 (tg 96)),
  ip 98 (pMov (tg 13)),
  ip 99 (pFaddr 2 (tg 12)),
  il 100 (tg 99) (mLoad1 (tg 99)),
  ip 101 (pBuild [(.int .i64 0), (.int .i64 0), (.int .i64 0), (.int .u64 0), (.int .i64 0)] [(0, 1, (tg 95)), (1, 1, (cv (.int .i64 1))), (2, 1, (tg 97)), (3, 1, (tg 98)), (4, 1, (tg 100))]),
  im 1 102 (mBslice 5 1 (rep 1 [(.int .i64 0), (.int .i64 0), (.int .i64 0), (.int .u64 0), (.int .i64 0)]) [(0, 5, (tg 101))]),
  im 3 103 (mAppend 5 40 (tg 94) (tg 102)),
  ip 104 (pFaddr 0 (tg 11)),
  im0 3 (mStore 1 (tg 104) (tg 103))]
@[simp] def oa1_23_ap := ops_rule (c := oa1_23) rfl
def oa1_24 : List IS := [ip 105 (pFaddr 4 (tg 12)),
  il 106 (tg 105) (mLoad1 (tg 105))]
@[simp] def oa1_24_ap := ops_rule (c := oa1_24) rfl
def oa1_25 : List IS := [il 107 (tg 10) (mLoadN 4 (tg 10)),
  ip 108 (pMov (tg 13)),
  im 3 109 (mCall 21 [(tg 107), (tg 108)]),
  im 1 14 (mAlloc [(.int .i64 0), (.int .i64 0), (.int .i64 0), (.int .u64 0), (.bool false), (.bool false)]),
  im0 3 (mStore 6 (tg 14) (tg 109))]
@[simp] def oa1_25_ap := ops_rule (c := oa1_25) rfl
def oa1_26 : List IS := [ip 110 (pFaddr 0 (tg 14)),
  il 111 (tg 110) (mLoad1 (tg 110)),
  ip 112 (pBin .neq (tg 111) (cv (.int .i64 0)))]
@[simp] def oa1_26_ap := ops_rule (c := oa1_26) rfl
def oa1_27 : List IS := [ip 113 (pFaddr 0 (tg 11)),
  il 114 (tg 113) (mLoad1 (tg 113)),
  ip 115 (pMov (tg 1)),
  ip 116 (pFaddr 1 (tg 14)),
  il 117 (tg 116) (mLoad1 (tg 116)),
  ip 118 (pFaddr 3 (tg 14)),
  il 119 (tg 118) (mLoad1 (tg 118)),
  ip 120 (pFaddr 2 (tg 14)),
  il 121 (tg 120) (mLoad1 (tg 120)),
  ip 122 (pBuild [(.int .i64 0), (.int .i64 0), (.int .i64 0), (.int .u64 0), (.int .i64 0)] [(0, 1, (tg 115)), (1, 1, (cv (.int .i64 2))), (2, 1, (tg 117)), (3, 1, (tg 119)), (4, 1, (tg 121))]),
  im 1 123 (mBslice 5 1 (rep 1 [(.int .i64 0), (.int .i64 0), (.int .i64 0), (.int .u64 0), (.int .i64 0)]) [(0, 5, (tg 122))]),
  im 3 124 (mAppend 5 40 (tg 114) (tg 123)),
  ip 125 (pFaddr 0 (tg 11)),
  im0 3 (mStore 1 (tg 125) (tg 124))]
@[simp] def oa1_27_ap := ops_rule (c := oa1_27) rfl
def oa1_28 : List IS := [ip 126 (pFaddr 1 (tg 11)),
  il 127 (tg 126) (mLoad1 (tg 126)),
  ip 128 (pFaddr 0 (tg 11)),
  il 129 (tg 128) (mLoad1 (tg 128)),
  ip 130 (pLen (tg 129)),
  ip 131 (pBin .sub (tg 130) (cv (.int .i64 2))),
  ip 132 (pFaddr 0 (tg 11)),
  il 133 (tg 132) (mLoad1 (tg 132)),
  ip 134 (pLen (tg 133)),
  ip 135 (pBin .sub (tg 134) (cv (.int .i64 1))),
  ip 136 (pBuild [(.int .i64 0), (.int .i64 0)] [(0, 1, (tg 131)), (1, 1, (tg 135))]),
  im 1 137 (mBslice 2 1 (rep 1 [(.int .i64 0), (.int .i64 0)]) [(0, 2, (tg 136))]),
  im 3 138 (mAppend 2 16 (tg 127) (tg 137)),
  ip 139 (pFaddr 1 (tg 11)),
  im0 3 (mStore 1 (tg 139) (tg 138))]
@[simp] def oa1_28_ap := ops_rule (c := oa1_28) rfl
def ca1_18 : SC := sSeq (sReg (seqI oa1_27)) (sReg (seqI oa1_28))
@[simp] def ca1_18_ap := seq_rule (c := ca1_18) rfl
def ca1_19 : SC := sCond (tg 112) ca1_18 sSkip
@[simp] def ca1_19_ap := cond_rule (c := ca1_19) rfl
def ca1_20 : SC := sSeq (sReg (seqI oa1_26)) ca1_19
@[simp] def ca1_20_ap := seq_rule (c := ca1_20) rfl
def ca1_21 : SC := sSeq (sReg (seqI oa1_25)) ca1_20
@[simp] def ca1_21_ap := seq_rule (c := ca1_21) rfl
def ca1_22 : SC := sCond (tg 106) ca1_21 sSkip
@[simp] def ca1_22_ap := cond_rule (c := ca1_22) rfl
def ca1_23 : SC := sSeq (sReg (seqI oa1_24)) ca1_22
@[simp] def ca1_23_ap := seq_rule (c := ca1_23) rfl
def ca1_24 : SC := sSeq (sReg (seqI oa1_23)) ca1_23
@[simp] def ca1_24_ap := seq_rule (c := ca1_24) rfl
def ca1_25 : SC := sSeq (sReg (seqI oa1_22)) ca1_24
@[simp] def ca1_25_ap := seq_rule (c := ca1_25) rfl
def ca1_26 : SC := sSeq (sReg (seqI oa1_21)) ca1_25
@[simp] def ca1_26_ap := seq_rule (c := ca1_26) rfl
def ca1_27 : SC := sSeq ca1_17 ca1_26
@[simp] def ca1_27_ap := seq_rule (c := ca1_27) rfl
def oa1_29 : List IS := [ip 141 (pBin .eql (tg 64) (cv (.int .i64 2))),
  ip 140 (pMov (tg 141))]
@[simp] def oa1_29_ap := ops_rule (c := oa1_29) rfl
def oa1_30 : List IS := [ip 142 (pFaddr 0 (tg 11)),
  il 143 (tg 142) (mLoad1 (tg 142)),
  ip 144 (pMov (tg 1)),
  ip 145 (pFaddr 1 (tg 12)),
  il 146 (tg 145) (mLoad1 (tg 145)),
  ip 147 (pFaddr 3 (tg 12)),
  il 148 (tg 147) (mLoad1 (tg 147)),
  ip 149 (pFaddr 2 (tg 12)),
  il 150 (tg 149) (mLoad1 (tg 149)),
  ip 151 (pBuild [(.int .i64 0), (.int .i64 0), (.int .i64 0), (.int .u64 0), (.int .i64 0)] [(0, 1, (tg 144)), (1, 1, (cv (.int .i64 2))), (2, 1, (tg 146)), (3, 1, (tg 148)), (4, 1, (tg 150))]),
  im 1 152 (mBslice 5 1 (rep 1 [(.int .i64 0), (.int .i64 0), (.int .i64 0), (.int .u64 0), (.int .i64 0)]) [(0, 5, (tg 151))]),
  im 3 153 (mAppend 5 40 (tg 143) (tg 152)),
  ip 154 (pFaddr 0 (tg 11)),
  im0 3 (mStore 1 (tg 154) (tg 153))]
@[simp] def oa1_30_ap := ops_rule (c := oa1_30) rfl
def oa1_31 : List IS := [ip 156 (pBin .eql (tg 64) (cv (.int .i64 3))),
  ip 155 (pMov (tg 156))]
@[simp] def oa1_31_ap := ops_rule (c := oa1_31) rfl
def oa1_32 : List IS := [ip 157 (pFaddr 0 (tg 11)),
  il 158 (tg 157) (mLoad1 (tg 157)),
  ip 159 (pMov (tg 1)),
  ip 160 (pFaddr 2 (tg 12)),
  il 161 (tg 160) (mLoad1 (tg 160)),
  ip 162 (pBuild [(.int .i64 0), (.int .i64 0), (.int .i64 0), (.int .u64 0), (.int .i64 0)] [(0, 1, (tg 159)), (1, 1, (cv (.int .i64 3))), (2, 1, (cv (.int .i64 (-1)))), (4, 1, (tg 161))]),
  im 1 163 (mBslice 5 1 (rep 1 [(.int .i64 0), (.int .i64 0), (.int .i64 0), (.int .u64 0), (.int .i64 0)]) [(0, 5, (tg 162))]),
  im 3 164 (mAppend 5 40 (tg 158) (tg 163)),
  ip 165 (pFaddr 0 (tg 11)),
  im0 3 (mStore 1 (tg 165) (tg 164))]
@[simp] def oa1_32_ap := ops_rule (c := oa1_32) rfl
def oa1_33 : List IS := [ip 65 (pFaddr 5 (tg 11)),
  il 66 (tg 65) (mLoad1 (tg 65)),
  ip 67 (pFaddr 3 (tg 12)),
  il 68 (tg 67) (mLoad1 (tg 67)),
  im 1 69 (mBslice 1 1 (rep 1 [(.int .u64 0)]) [(0, 1, (tg 68))]),
  im 3 70 (mAppend 1 8 (tg 66) (tg 69)),
  ip 71 (pFaddr 5 (tg 11)),
  im0 3 (mStore 1 (tg 71) (tg 70))]
@[simp] def oa1_33_ap := ops_rule (c := oa1_33) rfl
def ca1_28 : SC := sCond (tg 155) (sReg (seqI oa1_32)) (sReg (seqI oa1_33))
@[simp] def ca1_28_ap := cond_rule (c := ca1_28) rfl
def ca1_29 : SC := sSeq (sReg (seqI oa1_31)) ca1_28
@[simp] def ca1_29_ap := seq_rule (c := ca1_29) rfl
def ca1_30 : SC := sCond (tg 140) (sReg (seqI oa1_30)) ca1_29
@[simp] def ca1_30_ap := cond_rule (c := ca1_30) rfl
def ca1_31 : SC := sSeq (sReg (seqI oa1_29)) ca1_30
@[simp] def ca1_31_ap := seq_rule (c := ca1_31) rfl
def ca1_32 : SC := sCond (tg 72) ca1_27 ca1_31
@[simp] def ca1_32_ap := cond_rule (c := ca1_32) rfl
def ca1_33 : SC := sSeq (sReg (seqI oa1_16)) ca1_32
@[simp] def ca1_33_ap := seq_rule (c := ca1_33) rfl
def ca1_34 : SC := sBlock 2 ca1_33
@[simp] def ca1_34_ap := block_rule (c := ca1_34) rfl
def ca1_35 : SC := sSeq (sReg (seqI oa1_15)) ca1_34
@[simp] def ca1_35_ap := seq_rule (c := ca1_35) rfl
def oa1_34 : List IS := [il 166 (tg 10) (mLoadN 4 (tg 10)),
  ip 167 (pMov (tg 13)),
  im 3 168 (mCall 22 [(tg 166), (tg 167)]),
  im0 3 (mStore 4 (tg 10) (tg 168))]
@[simp] def oa1_34_ap := ops_rule (c := oa1_34) rfl
def ca1_36 : SC := sSeq ca1_35 (sReg (seqI oa1_34))
@[simp] def ca1_36_ap := seq_rule (c := ca1_36) rfl
def ca1_37 : SC := sSeq (sReg (seqI oa1_14)) ca1_36
@[simp] def ca1_37_ap := seq_rule (c := ca1_37) rfl
def ca1_38 : SC := sSeq (sReg (seqI oa1_13)) ca1_37
@[simp] def ca1_38_ap := seq_rule (c := ca1_38) rfl
def ca1_39 : SC := sSeq ca1_12 ca1_38
@[simp] def ca1_39_ap := seq_rule (c := ca1_39) rfl
def ca1_40 : SC := sSeq (sReg (seqI oa1_10)) ca1_39
@[simp] def ca1_40_ap := seq_rule (c := ca1_40) rfl
def ca1_41 : SC := sSeq ca1_9 ca1_40
@[simp] def ca1_41_ap := seq_rule (c := ca1_41) rfl
def ca1_42 : SC := sBlock 1 ca1_41
@[simp] def ca1_42_ap := block_rule (c := ca1_42) rfl
def ca1_43 : SC := sSeq ca1_5 ca1_42
@[simp] def ca1_43_ap := seq_rule (c := ca1_43) rfl
def ca1_44 : SC := sLoop ca1_43
def ca1_45 : SC := sBlock 0 ca1_44
@[simp] def ca1_45_ap := block_rule (c := ca1_45) rfl
def oa1_35 : List IS := [ip 169 (pFaddr 6 (tg 11)),
  im0 3 (mStore 1 (tg 169) (cv (.int .i64 1)))]
@[simp] def oa1_35_ap := ops_rule (c := oa1_35) rfl
def oa1_36 : List IS := [il 170 (tg 11) (mLoadN 9 (tg 11)),
  im0 3 (mStore 9 (tg 8) (tg 170)),
  ip 9 (pMov (cv (.int .i64 0)))]
@[simp] def oa1_36_ap := ops_rule (c := oa1_36) rfl
def ca1_46 : SC := sSeq (sReg (seqI oa1_36)) sRet
@[simp] def ca1_46_ap := seq_rule (c := ca1_46) rfl
def ca1_47 : SC := sSeq (sReg (seqI oa1_35)) ca1_46
@[simp] def ca1_47_ap := seq_rule (c := ca1_47) rfl
def ca1_48 : SC := sSeq ca1_45 ca1_47
@[simp] def ca1_48_ap := seq_rule (c := ca1_48) rfl
def ca1_49 : SC := sSeq (sReg (seqI oa1_5)) ca1_48
@[simp] def ca1_49_ap := seq_rule (c := ca1_49) rfl
def ca1_50 : SC := sSeq (sReg (seqI oa1_4)) ca1_49
@[simp] def ca1_50_ap := seq_rule (c := ca1_50) rfl
def ca1_51 : SC := sSeq ca1_3 ca1_50
@[simp] def ca1_51_ap := seq_rule (c := ca1_51) rfl
def ca1_52 : SC := sSeq (sReg (seqI oa1_1)) ca1_51
@[simp] def ca1_52_ap := seq_rule (c := ca1_52) rfl
def da1 : DFn := ⟨ca1_52, 171, [.cell 8 9, .t 9]⟩
theorem da1_ok : fnOf Tryz.prog 5 = some da1 := by kernel_rfl
def oa2_1 : List IS := [im 1 1 (mBox (tg 0)),
  im 1 2 (mAlloc [(.int .i64 0), (.slice none 0 0)])]
@[simp] def oa2_1_ap := ops_rule (c := oa2_1) rfl
def oa2_2 : List IS := [ip 8 (pFaddr 0 (tg 1)),
  il 9 (tg 8) (mLoad1 (tg 8)),
  ip 10 (pBuild [(.int .i64 0), (.slice none 0 0)] [(0, 1, (tg 9))]),
  im 1 3 (mAlloc [(.int .i64 0), (.slice none 0 0)]),
  im0 3 (mStore 2 (tg 3) (tg 10))]
@[simp] def oa2_2_ap := ops_rule (c := oa2_2) rfl
def oa2_3 : List IS := [ip 4 (pMov (cv (.int .i64 0)))]
@[simp] def oa2_3_ap := ops_rule (c := oa2_3) rfl
def oa2_4 : List IS := [ip 11 (pMov (tg 4)),
  ip 12 (pFaddr 1 (tg 1)),
  il 13 (tg 12) (mLoad1 (tg 12)),
  ip 14 (pLen (tg 13)),
  ip 15 (pBin .lss (tg 11) (tg 14))]
@[simp] def oa2_4_ap := ops_rule (c := oa2_4) rfl
def ca2_1 : SC := sCond (tg 15) sSkip (sExit 0)
@[simp] def ca2_1_ap := cond_rule (c := ca2_1) rfl
def ca2_2 : SC := sSeq (sReg (seqI oa2_4)) ca2_1
@[simp] def ca2_2_ap := seq_rule (c := ca2_2) rfl
def oa2_5 : List IS := [ip 18 (pFaddr 1 (tg 1)),
  il 19 (tg 18) (mLoad1 (tg 18)),
  ip 20 (pMov (tg 4)),
  ip 21 (pIaddrS 2 (tg 19) (tg 20)),
  ip 22 (pFaddr 0 (tg 21)),
  il 23 (tg 22) (mLoad1 (tg 22)),
  ip 24 (pBuild [(.int .i64 0), (.slice none 0 0)] [(0, 1, (tg 23))]),
  im 1 5 (mAlloc [(.int .i64 0), (.slice none 0 0)]),
  im0 3 (mStore 2 (tg 5) (tg 24))]
@[simp] def oa2_5_ap := ops_rule (c := oa2_5) rfl
def oa2_6 : List IS := [ip 6 (pMov (cv (.int .i64 0)))]
@[simp] def oa2_6_ap := ops_rule (c := oa2_6) rfl
def oa2_7 : List IS := [ip 25 (pMov (tg 6)),
  ip 26 (pFaddr 1 (tg 1)),
  il 27 (tg 26) (mLoad1 (tg 26)),
  ip 28 (pMov (tg 4)),
  ip 29 (pIaddrS 2 (tg 27) (tg 28)),
  ip 30 (pFaddr 1 (tg 29)),
  il 31 (tg 30) (mLoad1 (tg 30)),
  ip 32 (pLen (tg 31)),
  ip 33 (pBin .lss (tg 25) (tg 32))]
@[simp] def oa2_7_ap := ops_rule (c := oa2_7) rfl
def ca2_3 : SC := sCond (tg 33) sSkip (sExit 2)
@[simp] def ca2_3_ap := cond_rule (c := ca2_3) rfl
def ca2_4 : SC := sSeq (sReg (seqI oa2_7)) ca2_3
@[simp] def ca2_4_ap := seq_rule (c := ca2_4) rfl
def oa2_8 : List IS := [ip 36 (pFaddr 1 (tg 1)),
  il 37 (tg 36) (mLoad1 (tg 36)),
  ip 38 (pMov (tg 4)),
  ip 39 (pIaddrS 2 (tg 37) (tg 38)),
  ip 40 (pFaddr 1 (tg 39)),
  il 41 (tg 40) (mLoad1 (tg 40)),
  ip 42 (pMov (tg 6)),
  ip 43 (pIaddrS 11 (tg 41) (tg 42)),
  il 44 (tg 43) (mLoadN 11 (tg 43)),
  im 1 7 (mAlloc [(.int .i64 0), (.int .i64 0), (.int .i64 0), (.int .i64 0), (.slice none 0 0), (.slice none 0 0), (.slice none 0 0), (.int .i64 0), (.int .i64 0), (.int .i64 0), (.int .i64 0)]),
  im0 3 (mStore 11 (tg 7) (tg 44))]
@[simp] def oa2_8_ap := ops_rule (c := oa2_8) rfl
def oa2_9 : List IS := [im 1 45 (mBslice 4 0 (rep 0 [(.int .i64 0), (.int .u64 0), (.int .i64 0), (.int .i64 0)]) []),
  ip 46 (pFaddr 4 (tg 7)),
  il 47 (tg 46) (mLoad1 (tg 46)),
  im 3 48 (mAppend 4 32 (tg 45) (tg 47)),
  ip 49 (pFaddr 4 (tg 7)),
  im0 3 (mStore 1 (tg 49) (tg 48))]
@[simp] def oa2_9_ap := ops_rule (c := oa2_9) rfl
def oa2_10 : List IS := [im 1 50 (mBslice 4 0 (rep 0 [(.int .i64 0), (.int .u64 0), (.int .i64 0), (.int .i64 0)]) []),
  ip 51 (pFaddr 5 (tg 7)),
  il 52 (tg 51) (mLoad1 (tg 51)),
  im 3 53 (mAppend 4 32 (tg 50) (tg 52)),
  ip 54 (pFaddr 5 (tg 7)),
  im0 3 (mStore 1 (tg 54) (tg 53))]
@[simp] def oa2_10_ap := ops_rule (c := oa2_10) rfl
def oa2_11 : List IS := [im 1 55 (mBslice 4 0 (rep 0 [(.int .i64 0), (.int .u64 0), (.int .i64 0), (.int .i64 0)]) []),
  ip 56 (pFaddr 6 (tg 7)),
  il 57 (tg 56) (mLoad1 (tg 56)),
  im 3 58 (mAppend 4 32 (tg 55) (tg 57)),
  ip 59 (pFaddr 6 (tg 7)),
  im0 3 (mStore 1 (tg 59) (tg 58))]
@[simp] def oa2_11_ap := ops_rule (c := oa2_11) rfl
def oa2_12 : List IS := [ip 60 (pFaddr 1 (tg 5)),
  il 61 (tg 60) (mLoad1 (tg 60)),
  il 62 (tg 7) (mLoadN 11 (tg 7)),
  im 1 63 (mBslice 11 1 (rep 1 [(.int .i64 0), (.int .i64 0), (.int .i64 0), (.int .i64 0), (.slice none 0 0), (.slice none 0 0), (.slice none 0 0), (.int .i64 0), (.int .i64 0), (.int .i64 0), (.int .i64 0)]) [(0, 11, (tg 62))]),
  im 3 64 (mAppend 11 136 (tg 61) (tg 63)),
  ip 65 (pFaddr 1 (tg 5)),
  im0 3 (mStore 1 (tg 65) (tg 64))]
@[simp] def oa2_12_ap := ops_rule (c := oa2_12) rfl
def ca2_5 : SC := sSeq (sReg (seqI oa2_11)) (sReg (seqI oa2_12))
@[simp] def ca2_5_ap := seq_rule (c := ca2_5) rfl
def ca2_6 : SC := sSeq (sReg (seqI oa2_10)) ca2_5
@[simp] def ca2_6_ap := seq_rule (c := ca2_6) rfl
def ca2_7 : SC := sSeq (sReg (seqI oa2_9)) ca2_6
@[simp] def ca2_7_ap := seq_rule (c := ca2_7) rfl
def ca2_8 : SC := sSeq (sReg (seqI oa2_8)) ca2_7
@[simp] def ca2_8_ap := seq_rule (c := ca2_8) rfl
def ca2_9 : SC := sBlock 3 ca2_8
@[simp] def ca2_9_ap := block_rule (c := ca2_9) rfl
def oa2_13 : List IS := [ip 34 (pMov (tg 6)),
  ip 35 (pBin .add (tg 34) (cv (.int .i64 1))),
  ip 6 (pMov (tg 35))]
@[simp] def oa2_13_ap := ops_rule (c := oa2_13) rfl
def ca2_10 : SC := sSeq ca2_9 (sReg (seqI oa2_13))
@[simp] def ca2_10_ap := seq_rule (c := ca2_10) rfl
def ca2_11 : SC := sSeq ca2_4 ca2_10
@[simp] def ca2_11_ap := seq_rule (c := ca2_11) rfl
def ca2_12 : SC := sLoop ca2_11
def ca2_13 : SC := sBlock 2 ca2_12
@[simp] def ca2_13_ap := block_rule (c := ca2_13) rfl
def ca2_14 : SC := sSeq (sReg (seqI oa2_6)) ca2_13
@[simp] def ca2_14_ap := seq_rule (c := ca2_14) rfl
def oa2_14 : List IS := [ip 66 (pFaddr 1 (tg 3)),
  il 67 (tg 66) (mLoad1 (tg 66)),
  il 68 (tg 5) (mLoadN 2 (tg 5)),
  im 1 69 (mBslice 2 1 (rep 1 [(.int .i64 0), (.slice none 0 0)]) [(0, 2, (tg 68))]),
  im 3 70 (mAppend 2 32 (tg 67) (tg 69)),
  ip 71 (pFaddr 1 (tg 3)),
  im0 3 (mStore 1 (tg 71) (tg 70))]
@[simp] def oa2_14_ap := ops_rule (c := oa2_14) rfl
def ca2_15 : SC := sSeq ca2_14 (sReg (seqI oa2_14))
@[simp] def ca2_15_ap := seq_rule (c := ca2_15) rfl
def ca2_16 : SC := sSeq (sReg (seqI oa2_5)) ca2_15
@[simp] def ca2_16_ap := seq_rule (c := ca2_16) rfl
def ca2_17 : SC := sBlock 1 ca2_16
@[simp] def ca2_17_ap := block_rule (c := ca2_17) rfl
def oa2_15 : List IS := [ip 16 (pMov (tg 4)),
  ip 17 (pBin .add (tg 16) (cv (.int .i64 1))),
  ip 4 (pMov (tg 17))]
@[simp] def oa2_15_ap := ops_rule (c := oa2_15) rfl
def ca2_18 : SC := sSeq ca2_17 (sReg (seqI oa2_15))
@[simp] def ca2_18_ap := seq_rule (c := ca2_18) rfl
def ca2_19 : SC := sSeq ca2_2 ca2_18
@[simp] def ca2_19_ap := seq_rule (c := ca2_19) rfl
def ca2_20 : SC := sLoop ca2_19
def ca2_21 : SC := sBlock 0 ca2_20
@[simp] def ca2_21_ap := block_rule (c := ca2_21) rfl
def ca2_22 : SC := sSeq (sReg (seqI oa2_3)) ca2_21
@[simp] def ca2_22_ap := seq_rule (c := ca2_22) rfl
def oa2_16 : List IS := [il 72 (tg 3) (mLoadN 2 (tg 3)),
  im0 3 (mStore 2 (tg 2) (tg 72))]
@[simp] def oa2_16_ap := ops_rule (c := oa2_16) rfl
def ca2_23 : SC := sSeq (sReg (seqI oa2_16)) sRet
@[simp] def ca2_23_ap := seq_rule (c := ca2_23) rfl
def ca2_24 : SC := sSeq ca2_22 ca2_23
@[simp] def ca2_24_ap := seq_rule (c := ca2_24) rfl
def ca2_25 : SC := sSeq (sReg (seqI oa2_2)) ca2_24
@[simp] def ca2_25_ap := seq_rule (c := ca2_25) rfl
def ca2_26 : SC := sSeq (sReg (seqI oa2_1)) ca2_25
@[simp] def ca2_26_ap := seq_rule (c := ca2_26) rfl
def da2 : DFn := ⟨ca2_26, 73, [.cell 2 2]⟩
theorem da2_ok : fnOf Tryz.prog 6 = some da2 := by kernel_rfl
def oa5_1 : List IS := [im 1 2 (mBox (tg 0)),
  im 1 3 (mBox (tg 1)),
  ip 4 (pMov (cv (.bool false)))]
@[simp] def oa5_1_ap := ops_rule (c := oa5_1) rfl
def oa5_2 : List IS := [ip 11 (pFaddr 0 (tg 2)),
  il 12 (tg 11) (mLoad1 (tg 11)),
  ip 13 (pFaddr 0 (tg 3)),
  il 14 (tg 13) (mLoad1 (tg 13)),
  ip 15 (pBin .neq (tg 12) (tg 14)),
  ip 16 (pMov (tg 15)),
  gd 16 false (some 17) (ip 17 (pFaddr 1 (tg 2))),
  gd 16 false (some 18) (il 18 (tg 17) (mLoad1 (tg 17))),
  gd 16 false (some 19) (ip 19 (pLen (tg 18))),
  gd 16 false (some 20) (ip 20 (pFaddr 1 (tg 3))),
  gd 16 false (some 21) (il 21 (tg 20) (mLoad1 (tg 20))),
  gd 16 false (some 22) (ip 22 (pLen (tg 21))),
  gd 16 false (some 23) (ip 23 (pBin .neq (tg 19) (tg 22))),
  ip 24 (pPick (tg 16) (cv (.bool true)) (tg 23))]
@[simp] def oa5_2_ap := ops_rule (c := oa5_2) rfl
def oa5_3 : List IS := [ip 4 (pMov (cv (.bool false)))]
def ca5_1 : SC := sSeq (sReg (seqI oa5_3)) sRet
def ca5_2 : SC := sCond (tg 24) ca5_1 sSkip
@[simp] def ca5_2_ap := cond_rule (c := ca5_2) rfl
def ca5_3 : SC := sSeq (sReg (seqI oa5_2)) ca5_2
@[simp] def ca5_3_ap := seq_rule (c := ca5_3) rfl
def oa5_4 : List IS := [ip 5 (pMov (cv (.int .i64 0)))]
@[simp] def oa5_4_ap := ops_rule (c := oa5_4) rfl
def oa5_5 : List IS := [ip 25 (pMov (tg 5)),
  ip 26 (pFaddr 1 (tg 2)),
  il 27 (tg 26) (mLoad1 (tg 26)),
  ip 28 (pLen (tg 27)),
  ip 29 (pBin .lss (tg 25) (tg 28))]
@[simp] def oa5_5_ap := ops_rule (c := oa5_5) rfl
def ca5_4 : SC := sCond (tg 29) sSkip (sExit 0)
@[simp] def ca5_4_ap := cond_rule (c := ca5_4) rfl
def ca5_5 : SC := sSeq (sReg (seqI oa5_5)) ca5_4
@[simp] def ca5_5_ap := seq_rule (c := ca5_5) rfl
def oa5_6 : List IS := [ip 32 (pFaddr 1 (tg 2)),
  il 33 (tg 32) (mLoad1 (tg 32)),
  ip 34 (pMov (tg 5)),
  ip 35 (pIaddrS 2 (tg 33) (tg 34)),
  il 36 (tg 35) (mLoadN 2 (tg 35)),
  im 1 6 (mAlloc [(.int .i64 0), (.slice none 0 0)]),
  im0 3 (mStore 2 (tg 6) (tg 36))]
@[simp] def oa5_6_ap := ops_rule (c := oa5_6) rfl
def oa5_7 : List IS := [ip 37 (pFaddr 1 (tg 3)),
  il 38 (tg 37) (mLoad1 (tg 37)),
  ip 39 (pMov (tg 5)),
  ip 40 (pIaddrS 2 (tg 38) (tg 39)),
  il 41 (tg 40) (mLoadN 2 (tg 40)),
  im 1 7 (mAlloc [(.int .i64 0), (.slice none 0 0)]),
  im0 3 (mStore 2 (tg 7) (tg 41))]
@[simp] def oa5_7_ap := ops_rule (c := oa5_7) rfl
def oa5_8 : List IS := [ip 42 (pFaddr 0 (tg 6)),
  il 43 (tg 42) (mLoad1 (tg 42)),
  ip 44 (pFaddr 0 (tg 7)),
  il 45 (tg 44) (mLoad1 (tg 44)),
  ip 46 (pBin .neq (tg 43) (tg 45)),
  ip 47 (pMov (tg 46)),
  gd 47 false (some 48) (ip 48 (pFaddr 1 (tg 6))),
  gd 47 false (some 49) (il 49 (tg 48) (mLoad1 (tg 48))),
  gd 47 false (some 50) (ip 50 (pLen (tg 49))),
  gd 47 false (some 51) (ip 51 (pFaddr 1 (tg 7))),
  gd 47 false (some 52) (il 52 (tg 51) (mLoad1 (tg 51))),
  gd 47 false (some 53) (ip 53 (pLen (tg 52))),
  gd 47 false (some 54) (ip 54 (pBin .neq (tg 50) (tg 53))),
  ip 55 (pPick (tg 47) (cv (.bool true)) (tg 54))]
@[simp] def oa5_8_ap := ops_rule (c := oa5_8) rfl
def oa5_9 : List IS := [ip 4 (pMov (cv (.bool false)))]
def ca5_6 : SC := sSeq (sReg (seqI oa5_9)) sRet
def ca5_7 : SC := sCond (tg 55) ca5_6 sSkip
@[simp] def ca5_7_ap := cond_rule (c := ca5_7) rfl
def ca5_8 : SC := sSeq (sReg (seqI oa5_8)) ca5_7
@[simp] def ca5_8_ap := seq_rule (c := ca5_8) rfl
def oa5_10 : List IS := [ip 8 (pMov (cv (.int .i64 0)))]
@[simp] def oa5_10_ap := ops_rule (c := oa5_10) rfl
def oa5_11 : List IS := [ip 56 (pMov (tg 8)),
  ip 57 (pFaddr 1 (tg 6)),
  il 58 (tg 57) (mLoad1 (tg 57)),
  ip 59 (pLen (tg 58)),
  ip 60 (pBin .lss (tg 56) (tg 59))]
@[simp] def oa5_11_ap := ops_rule (c := oa5_11) rfl
def ca5_9 : SC := sCond (tg 60) sSkip (sExit 2)
@[simp] def ca5_9_ap := cond_rule (c := ca5_9) rfl
def ca5_10 : SC := sSeq (sReg (seqI oa5_11)) ca5_9
@[simp] def ca5_10_ap := seq_rule (c := ca5_10) rfl
def oa5_12 : List IS := [ip 63 (pFaddr 1 (tg 6)),
  il 64 (tg 63) (mLoad1 (tg 63)),
  ip 65 (pMov (tg 8)),
  ip 66 (pIaddrS 11 (tg 64) (tg 65)),
  il 67 (tg 66) (mLoadN 11 (tg 66)),
  im 1 9 (mAlloc [(.int .i64 0), (.int .i64 0), (.int .i64 0), (.int .i64 0), (.slice none 0 0), (.slice none 0 0), (.slice none 0 0), (.int .i64 0), (.int .i64 0), (.int .i64 0), (.int .i64 0)]),
  im0 3 (mStore 11 (tg 9) (tg 67))]
@[simp] def oa5_12_ap := ops_rule (c := oa5_12) rfl
def oa5_13 : List IS := [ip 68 (pFaddr 1 (tg 7)),
  il 69 (tg 68) (mLoad1 (tg 68)),
  ip 70 (pMov (tg 8)),
  ip 71 (pIaddrS 11 (tg 69) (tg 70)),
  il 72 (tg 71) (mLoadN 11 (tg 71)),
  im 1 10 (mAlloc [(.int .i64 0), (.int .i64 0), (.int .i64 0), (.int .i64 0), (.slice none 0 0), (.slice none 0 0), (.slice none 0 0), (.int .i64 0), (.int .i64 0), (.int .i64 0), (.int .i64 0)]),
  im0 3 (mStore 11 (tg 10) (tg 72))]
@[simp] def oa5_13_ap := ops_rule (c := oa5_13) rfl
def oa5_14 : List IS := [ip 73 (pFaddr 0 (tg 9)),
  il 74 (tg 73) (mLoad1 (tg 73)),
  ip 75 (pFaddr 0 (tg 10)),
  il 76 (tg 75) (mLoad1 (tg 75)),
  ip 77 (pBin .neq (tg 74) (tg 76)),
  ip 78 (pMov (tg 77)),
  gd 78 false (some 79) (ip 79 (pFaddr 1 (tg 9))),
  gd 78 false (some 80) (il 80 (tg 79) (mLoad1 (tg 79))),
  gd 78 false (some 81) (ip 81 (pFaddr 1 (tg 10))),
  gd 78 false (some 82) (il 82 (tg 81) (mLoad1 (tg 81))),
  gd 78 false (some 83) (ip 83 (pBin .neq (tg 80) (tg 82))),
  ip 84 (pPick (tg 78) (cv (.bool true)) (tg 83)),
  ip 85 (pMov (tg 84)),
  gd 85 false (some 86) (ip 86 (pFaddr 2 (tg 9))),
  gd 85 false (some 87) (il 87 (tg 86) (mLoad1 (tg 86))),
  gd 85 false (some 88) (ip 88 (pFaddr 2 (tg 10))),
  gd 85 false (some 89) (il 89 (tg 88) (mLoad1 (tg 88))),
  gd 85 false (some 90) (ip 90 (pBin .neq (tg 87) (tg 89))),
  ip 91 (pPick (tg 85) (cv (.bool true)) (tg 90)),
  ip 92 (pMov (tg 91)),
  gd 92 false (some 93) (ip 93 (pFaddr 3 (tg 9))),
  gd 92 false (some 94) (il 94 (tg 93) (mLoad1 (tg 93))),
  gd 92 false (some 95) (ip 95 (pFaddr 3 (tg 10))),
  gd 92 false (some 96) (il 96 (tg 95) (mLoad1 (tg 95))),
  gd 92 false (some 97) (ip 97 (pBin .neq (tg 94) (tg 96))),
  ip 98 (pPick (tg 92) (cv (.bool true)) (tg 97)),
  ip 99 (pMov (tg 98)),
  gd 99 false (some 100) (ip 100 (pFaddr 7 (tg 9))),
  gd 99 false (some 101) (il 101 (tg 100) (mLoad1 (tg 100))),
  gd 99 false (some 102) (ip 102 (pFaddr 7 (tg 10))),
  gd 99 false (some 103) (il 103 (tg 102) (mLoad1 (tg 102))),
  gd 99 false (some 104) (ip 104 (pBin .neq (tg 101) (tg 103))),
  ip 105 (pPick (tg 99) (cv (.bool true)) (tg 104)),
  ip 106 (pMov (tg 105)),
  gd 106 false (some 107) (ip 107 (pFaddr 8 (tg 9))),
  gd 106 false (some 108) (il 108 (tg 107) (mLoad1 (tg 107))),
  gd 106 false (some 109) (ip 109 (pFaddr 8 (tg 10))),
  gd 106 false (some 110) (il 110 (tg 109) (mLoad1 (tg 109))),
  gd 106 false (some 111) (ip 111 (pBin .neq (tg 108) (tg 110))),
  ip 112 (pPick (tg 106) (cv (.bool true)) (tg 111)),
  ip 113 (pMov (tg 112)),
  gd 113 false (some 114) (ip 114 (pFaddr 9 (tg 9))),
  gd 113 false (some 115) (il 115 (tg 114) (mLoad1 (tg 114))),
  gd 113 false (some 116) (ip 116 (pFaddr 9 (tg 10))),
  gd 113 false (some 117) (il 117 (tg 116) (mLoad1 (tg 116))),
  gd 113 false (some 118) (ip 118 (pBin .neq (tg 115) (tg 117))),
  ip 119 (pPick (tg 113) (cv (.bool true)) (tg 118)),
  ip 120 (pMov (tg 119)),
  gd 120 false (some 121) (ip 121 (pFaddr 10 (tg 9))),
  gd 120 false (some 122) (il 122 (tg 121) (mLoad1 (tg 121))),
  gd 120 false (some 123) (ip 123 (pFaddr 10 (tg 10))),
  gd 120 false (some 124) (il 124 (tg 123) (mLoad1 (tg 123))),
  gd 120 false (some 125) (ip 125 (pBin .neq (tg 122) (tg 124))),
  ip 126 (pPick (tg 120) (cv (.bool true)) (tg 125))]
@[simp] def oa5_14_ap := ops_rule (c := oa5_14) rfl
def oa5_15 : List IS := [ip 4 (pMov (cv (.bool false)))]
def ca5_11 : SC := sSeq (sReg (seqI oa5_15)) sRet
def ca5_12 : SC := sCond (tg 126) ca5_11 sSkip
@[simp] def ca5_12_ap := cond_rule (c := ca5_12) rfl
def ca5_13 : SC := sSeq (sReg (seqI oa5_14)) ca5_12
@[simp] def ca5_13_ap := seq_rule (c := ca5_13) rfl
def oa5_16 : List IS := [ip 127 (pFaddr 4 (tg 9)),
  il 128 (tg 127) (mLoad1 (tg 127)),
  ip 129 (pFaddr 4 (tg 10)),
  il 130 (tg 129) (mLoad1 (tg 129)),
  im 3 131 (mCall 31 [(tg 128), (tg 130)]),
  ip 132 (pUn .not (tg 131)),
  ip 133 (pMov (tg 132)),
  gd 133 false (some 134) (ip 134 (pFaddr 5 (tg 9))),
  gd 133 false (some 135) (il 135 (tg 134) (mLoad1 (tg 134))),
  gd 133 false (some 136) (ip 136 (pFaddr 5 (tg 10))),
  gd 133 false (some 137) (il 137 (tg 136) (mLoad1 (tg 136))),
  gd 133 false (some 138) (im 3 138 (mCall 31 [(tg 135), (tg 137)])),
  gd 133 false (some 139) (ip 139 (pUn .not (tg 138))),
  ip 140 (pPick (tg 133) (cv (.bool true)) (tg 139)),
  ip 141 (pMov (tg 140)),
  gd 141 false (some 142) (ip 142 (pFaddr 6 (tg 9))),
  gd 141 false (some 143) (il 143 (tg 142) (mLoad1 (tg 142))),
  gd 141 false (some 144) (ip 144 (pFaddr 6 (tg 10))),
  gd 141 false (some 145) (il 145 (tg 144) (mLoad1 (tg 144))),
  gd 141 false (some 146) (im 3 146 (mCall 31 [(tg 143), (tg 145)])),
  gd 141 false (some 147) (ip 147 (pUn .not (tg 146))),
  ip 148 (pPick (tg 141) (cv (.bool true)) (tg 147))]
@[simp] def oa5_16_ap := ops_rule (c := oa5_16) rfl
def oa5_17 : List IS := [ip 4 (pMov (cv (.bool false)))]
def ca5_14 : SC := sSeq (sReg (seqI oa5_17)) sRet
def ca5_15 : SC := sCond (tg 148) ca5_14 sSkip
@[simp] def ca5_15_ap := cond_rule (c := ca5_15) rfl
def ca5_16 : SC := sSeq (sReg (seqI oa5_16)) ca5_15
@[simp] def ca5_16_ap := seq_rule (c := ca5_16) rfl
def ca5_17 : SC := sSeq ca5_13 ca5_16
@[simp] def ca5_17_ap := seq_rule (c := ca5_17) rfl
def ca5_18 : SC := sSeq (sReg (seqI oa5_13)) ca5_17
@[simp] def ca5_18_ap := seq_rule (c := ca5_18) rfl
def ca5_19 : SC := sSeq (sReg (seqI oa5_12)) ca5_18
@[simp] def ca5_19_ap := seq_rule (c := ca5_19) rfl
def ca5_20 : SC := sBlock 3 ca5_19
@[simp] def ca5_20_ap := block_rule (c := ca5_20) rfl
def oa5_18 : List IS := [ip 61 (pMov (tg 8)),
  ip 62 (pBin .add (tg 61) (cv (.int .i64 1))),
  ip 8 (pMov (tg 62))]
@[simp] def oa5_18_ap := ops_rule (c := oa5_18) rfl
def ca5_21 : SC := sSeq ca5_20 (sReg (seqI oa5_18))
@[simp] def ca5_21_ap := seq_rule (c := ca5_21) rfl
def ca5_22 : SC := sSeq ca5_10 ca5_21
@[simp] def ca5_22_ap := seq_rule (c := ca5_22) rfl
def ca5_23 : SC := sLoop ca5_22
def ca5_24 : SC := sBlock 2 ca5_23
@[simp] def ca5_24_ap := block_rule (c := ca5_24) rfl
def ca5_25 : SC := sSeq (sReg (seqI oa5_10)) ca5_24
@[simp] def ca5_25_ap := seq_rule (c := ca5_25) rfl
def ca5_26 : SC := sSeq ca5_8 ca5_25
@[simp] def ca5_26_ap := seq_rule (c := ca5_26) rfl
def ca5_27 : SC := sSeq (sReg (seqI oa5_7)) ca5_26
@[simp] def ca5_27_ap := seq_rule (c := ca5_27) rfl
def ca5_28 : SC := sSeq (sReg (seqI oa5_6)) ca5_27
@[simp] def ca5_28_ap := seq_rule (c := ca5_28) rfl
def ca5_29 : SC := sBlock 1 ca5_28
@[simp] def ca5_29_ap := block_rule (c := ca5_29) rfl
def oa5_19 : List IS := [ip 30 (pMov (tg 5)),
  ip 31 (pBin .add (tg 30) (cv (.int .i64 1))),
  ip 5 (pMov (tg 31))]
@[simp] def oa5_19_ap := ops_rule (c := oa5_19) rfl
def ca5_30 : SC := sSeq ca5_29 (sReg (seqI oa5_19))
@[simp] def ca5_30_ap := seq_rule (c := ca5_30) rfl
def ca5_31 : SC := sSeq ca5_5 ca5_30
@[simp] def ca5_31_ap := seq_rule (c := ca5_31) rfl
def ca5_32 : SC := sLoop ca5_31
def ca5_33 : SC := sBlock 0 ca5_32
@[simp] def ca5_33_ap := block_rule (c := ca5_33) rfl
def ca5_34 : SC := sSeq (sReg (seqI oa5_4)) ca5_33
@[simp] def ca5_34_ap := seq_rule (c := ca5_34) rfl
def oa5_20 : List IS := [ip 4 (pMov (cv (.bool true)))]
@[simp] def oa5_20_ap := ops_rule (c := oa5_20) rfl
def ca5_35 : SC := sSeq (sReg (seqI oa5_20)) sRet
@[simp] def ca5_35_ap := seq_rule (c := ca5_35) rfl
def ca5_36 : SC := sSeq ca5_34 ca5_35
@[simp] def ca5_36_ap := seq_rule (c := ca5_36) rfl
def ca5_37 : SC := sSeq ca5_3 ca5_36
@[simp] def ca5_37_ap := seq_rule (c := ca5_37) rfl
def ca5_38 : SC := sSeq (sReg (seqI oa5_1)) ca5_37
@[simp] def ca5_38_ap := seq_rule (c := ca5_38) rfl
def da5 : DFn := ⟨ca5_38, 149, [.t 4]⟩
theorem da5_ok : fnOf Tryz.prog 9 = some da5 := by kernel_rfl
def oa8_1 : List IS := [im 1 1 (mBox (tg 0)),
  ip 2 (pMov (cv (.bool false)))]
@[simp] def oa8_1_ap := ops_rule (c := oa8_1) rfl
def oa8_2 : List IS := [ip 6 (pFaddr 0 (tg 1)),
  il 7 (tg 6) (mLoad1 (tg 6)),
  ip 8 (pBin .lss (tg 7) (cv (.int .i64 0))),
  ip 9 (pMov (tg 8)),
  gd 9 false (some 10) (ip 10 (pFaddr 0 (tg 1))),
  gd 9 false (some 11) (il 11 (tg 10) (mLoad1 (tg 10))),
  gd 9 false (some 12) (ip 12 (pBin .gtr (tg 11) (cv (.int .i64 4096)))),
  ip 13 (pPick (tg 9) (cv (.bool true)) (tg 12)),
  ip 14 (pMov (tg 13)),
  gd 14 false (some 15) (ip 15 (pFaddr 1 (tg 1))),
  gd 14 false (some 16) (il 16 (tg 15) (mLoad1 (tg 15))),
  gd 14 false (some 17) (ip 17 (pLen (tg 16))),
  gd 14 false (some 18) (ip 18 (pBin .gtr (tg 17) (cv (.int .i64 64)))),
  ip 19 (pPick (tg 14) (cv (.bool true)) (tg 18))]
@[simp] def oa8_2_ap := ops_rule (c := oa8_2) rfl
def oa8_3 : List IS := [ip 2 (pMov (cv (.bool false)))]
@[simp] def oa8_3_ap := ops_rule (c := oa8_3) rfl
def ca8_1 : SC := sSeq (sReg (seqI oa8_3)) sRet
@[simp] def ca8_1_ap := seq_rule (c := ca8_1) rfl
def ca8_2 : SC := sCond (tg 19) ca8_1 sSkip
@[simp] def ca8_2_ap := cond_rule (c := ca8_2) rfl
def ca8_3 : SC := sSeq (sReg (seqI oa8_2)) ca8_2
@[simp] def ca8_3_ap := seq_rule (c := ca8_3) rfl
def oa8_4 : List IS := [ip 3 (pMov (cv (.int .i64 0)))]
@[simp] def oa8_4_ap := ops_rule (c := oa8_4) rfl
def oa8_5 : List IS := [ip 20 (pMov (tg 3)),
  ip 21 (pFaddr 1 (tg 1)),
  il 22 (tg 21) (mLoad1 (tg 21)),
  ip 23 (pLen (tg 22)),
  ip 24 (pBin .lss (tg 20) (tg 23))]
@[simp] def oa8_5_ap := ops_rule (c := oa8_5) rfl
def ca8_4 : SC := sCond (tg 24) sSkip (sExit 0)
@[simp] def ca8_4_ap := cond_rule (c := ca8_4) rfl
def ca8_5 : SC := sSeq (sReg (seqI oa8_5)) ca8_4
@[simp] def ca8_5_ap := seq_rule (c := ca8_5) rfl
def oa8_6 : List IS := [ip 27 (pFaddr 1 (tg 1)),
  il 28 (tg 27) (mLoad1 (tg 27)),
  ip 29 (pMov (tg 3)),
  ip 30 (pIaddrS 2 (tg 28) (tg 29)),
  il 31 (tg 30) (mLoadN 2 (tg 30)),
  im 1 4 (mAlloc [(.int .i64 0), (.slice none 0 0)]),
  im0 3 (mStore 2 (tg 4) (tg 31))]
@[simp] def oa8_6_ap := ops_rule (c := oa8_6) rfl
def oa8_7 : List IS := [ip 32 (pFaddr 0 (tg 4)),
  il 33 (tg 32) (mLoad1 (tg 32)),
  ip 34 (pBin .lss (tg 33) (cv (.int .i64 0))),
  ip 35 (pMov (tg 34)),
  gd 35 false (some 36) (ip 36 (pFaddr 0 (tg 4))),
  gd 35 false (some 37) (il 37 (tg 36) (mLoad1 (tg 36))),
  gd 35 false (some 38) (ip 38 (pBin .gtr (tg 37) (cv (.int .i64 24)))),
  ip 39 (pPick (tg 35) (cv (.bool true)) (tg 38)),
  ip 40 (pMov (tg 39)),
  gd 40 false (some 41) (ip 41 (pFaddr 1 (tg 4))),
  gd 40 false (some 42) (il 42 (tg 41) (mLoad1 (tg 41))),
  gd 40 false (some 43) (ip 43 (pLen (tg 42))),
  gd 40 false (some 44) (ip 44 (pBin .gtr (tg 43) (cv (.int .i64 65536)))),
  ip 45 (pPick (tg 40) (cv (.bool true)) (tg 44))]
@[simp] def oa8_7_ap := ops_rule (c := oa8_7) rfl
def oa8_8 : List IS := [ip 2 (pMov (cv (.bool false)))]
@[simp] def oa8_8_ap := ops_rule (c := oa8_8) rfl
def ca8_6 : SC := sSeq (sReg (seqI oa8_8)) sRet
@[simp] def ca8_6_ap := seq_rule (c := ca8_6) rfl
def ca8_7 : SC := sCond (tg 45) ca8_6 sSkip
@[simp] def ca8_7_ap := cond_rule (c := ca8_7) rfl
def ca8_8 : SC := sSeq (sReg (seqI oa8_7)) ca8_7
@[simp] def ca8_8_ap := seq_rule (c := ca8_8) rfl
def oa8_9 : List IS := [ip 5 (pMov (cv (.int .i64 0)))]
@[simp] def oa8_9_ap := ops_rule (c := oa8_9) rfl
def oa8_10 : List IS := [ip 46 (pMov (tg 5)),
  ip 47 (pFaddr 1 (tg 4)),
  il 48 (tg 47) (mLoad1 (tg 47)),
  ip 49 (pLen (tg 48)),
  ip 50 (pBin .lss (tg 46) (tg 49))]
@[simp] def oa8_10_ap := ops_rule (c := oa8_10) rfl
def ca8_9 : SC := sCond (tg 50) sSkip (sExit 2)
@[simp] def ca8_9_ap := cond_rule (c := ca8_9) rfl
def ca8_10 : SC := sSeq (sReg (seqI oa8_10)) ca8_9
@[simp] def ca8_10_ap := seq_rule (c := ca8_10) rfl
def oa8_11 : List DA := [⟨CI.pure (pFaddr 1 (tg 4)), (some 53), none, 0, []⟩,
  ⟨CI.load (tg 53) (mLoad1 (tg 53)), (some 54), none, 1, []⟩,
  ⟨CI.pure (pMov (tg 5)), (some 55), none, 2, []⟩,
  ⟨CI.pure (pIaddrS 11 (tg 54) (tg 55)), (some 56), none, 3, []⟩,
  ⟨CI.load (tg 56) (mLoadN 11 (tg 56)), (some 57), none, 4, []⟩,
  ⟨CI.load (tg 1) (mLoadN 2 (tg 1)), (some 58), none, 5, []⟩,
  ⟨CI.load (tg 4) (mLoadN 2 (tg 4)), (some 59), none, 6, []⟩,
  ⟨CI.mem 3 (mCall 37 [(tg 57), (tg 58), (tg 59)]), (some 60), none, 7, []⟩,
  ⟨CI.pure (pUn .not (tg 60)), (some 61), none, 8, []⟩]
@[simp] def oa8_11_ap := das_rule (c := oa8_11) rfl
def oa8_12 : List IS := [ip 2 (pMov (cv (.bool false)))]
@[simp] def oa8_12_ap := ops_rule (c := oa8_12) rfl
def ca8_11 : SC := sSeq (sReg (seqI oa8_12)) sRet
@[simp] def ca8_11_ap := seq_rule (c := ca8_11) rfl
def ca8_12 : SC := sCond (tg 61) ca8_11 sSkip
@[simp] def ca8_12_ap := cond_rule (c := ca8_12) rfl
def ca8_13 : SC := sSeq (sAny oa8_11) ca8_12
@[simp] def ca8_13_ap := seq_rule (c := ca8_13) rfl
def ca8_14 : SC := sBlock 3 ca8_13
@[simp] def ca8_14_ap := block_rule (c := ca8_14) rfl
def oa8_13 : List IS := [ip 51 (pMov (tg 5)),
  ip 52 (pBin .add (tg 51) (cv (.int .i64 1))),
  ip 5 (pMov (tg 52))]
@[simp] def oa8_13_ap := ops_rule (c := oa8_13) rfl
def ca8_15 : SC := sSeq ca8_14 (sReg (seqI oa8_13))
@[simp] def ca8_15_ap := seq_rule (c := ca8_15) rfl
def ca8_16 : SC := sSeq ca8_10 ca8_15
@[simp] def ca8_16_ap := seq_rule (c := ca8_16) rfl
def ca8_17 : SC := sLoop ca8_16
def ca8_18 : SC := sBlock 2 ca8_17
@[simp] def ca8_18_ap := block_rule (c := ca8_18) rfl
def ca8_19 : SC := sSeq (sReg (seqI oa8_9)) ca8_18
@[simp] def ca8_19_ap := seq_rule (c := ca8_19) rfl
def ca8_20 : SC := sSeq ca8_8 ca8_19
@[simp] def ca8_20_ap := seq_rule (c := ca8_20) rfl
def ca8_21 : SC := sSeq (sReg (seqI oa8_6)) ca8_20
@[simp] def ca8_21_ap := seq_rule (c := ca8_21) rfl
def ca8_22 : SC := sBlock 1 ca8_21
@[simp] def ca8_22_ap := block_rule (c := ca8_22) rfl
def oa8_14 : List IS := [ip 25 (pMov (tg 3)),
  ip 26 (pBin .add (tg 25) (cv (.int .i64 1))),
  ip 3 (pMov (tg 26))]
@[simp] def oa8_14_ap := ops_rule (c := oa8_14) rfl
def ca8_23 : SC := sSeq ca8_22 (sReg (seqI oa8_14))
@[simp] def ca8_23_ap := seq_rule (c := ca8_23) rfl
def ca8_24 : SC := sSeq ca8_5 ca8_23
@[simp] def ca8_24_ap := seq_rule (c := ca8_24) rfl
def ca8_25 : SC := sLoop ca8_24
def ca8_26 : SC := sBlock 0 ca8_25
@[simp] def ca8_26_ap := block_rule (c := ca8_26) rfl
def ca8_27 : SC := sSeq (sReg (seqI oa8_4)) ca8_26
@[simp] def ca8_27_ap := seq_rule (c := ca8_27) rfl
def oa8_15 : List IS := [ip 2 (pMov (cv (.bool true)))]
@[simp] def oa8_15_ap := ops_rule (c := oa8_15) rfl
def ca8_28 : SC := sSeq (sReg (seqI oa8_15)) sRet
@[simp] def ca8_28_ap := seq_rule (c := ca8_28) rfl
def ca8_29 : SC := sSeq ca8_27 ca8_28
@[simp] def ca8_29_ap := seq_rule (c := ca8_29) rfl
def ca8_30 : SC := sSeq ca8_3 ca8_29
@[simp] def ca8_30_ap := seq_rule (c := ca8_30) rfl
def ca8_31 : SC := sSeq (sReg (seqI oa8_1)) ca8_30
@[simp] def ca8_31_ap := seq_rule (c := ca8_31) rfl
def da8 : DFn := ⟨ca8_31, 62, [.t 2]⟩
theorem da8_ok : fnOf Tryz.prog 13 = some da8 := by kernel_rfl
def ob0_1 : List IS := [im 1 1 (mBox (tg 0)),
  im 1 2 (mAlloc [(.int .i64 0), (.slice none 0 0), (.int .i64 0), (.slice none 0 0)])]
@[simp] def ob0_1_ap := ops_rule (c := ob0_1) rfl
def ob0_2 : List DA := [⟨CI.load (tg 1) (mLoadN 2 (tg 1)), (some 3), none, 0, []⟩,
  ⟨CI.pure (pFaddr 0 (tg 1)), (some 4), none, 1, []⟩,
  ⟨CI.load (tg 4) (mLoad1 (tg 4)), (some 5), none, 2, []⟩,
  ⟨CI.mem 1 (mMkslice 1 8 [(.int .u64 0)] (tg 5) (tg 5)), (some 6), none, 3, []⟩,
  ⟨CI.pure (pBuild [(.int .i64 0), (.slice none 0 0), (.int .i64 0), (.slice none 0 0)] [(0, 2, (tg 3)), (2, 1, (cv (.int .i64 0))), (3, 1, (tg 6))]), (some 7), none, 4, []⟩,
  ⟨CI.mem 3 (mStore 4 (tg 2) (tg 7)), none, none, 5, []⟩]
@[simp] def ob0_2_ap := das_rule (c := ob0_2) rfl
def cb0_1 : SC := sSeq (sAny ob0_2) sRet
@[simp] def cb0_1_ap := seq_rule (c := cb0_1) rfl
def cb0_2 : SC := sSeq (sReg (seqI ob0_1)) cb0_1
@[simp] def cb0_2_ap := seq_rule (c := cb0_2) rfl
def db0 : DFn := ⟨cb0_2, 8, [.cell 2 4]⟩
theorem db0_ok : fnOf Tryz.prog 16 = some db0 := by kernel_rfl
def ob2_1 : List IS := [im 1 2 (mBox (tg 0)),
  im 1 4 (mAlloc [(.int .i64 0), (.int .i64 0), (.int .i64 0), (.int .u64 0), (.bool false), (.bool false)])]
@[simp] def ob2_1_ap := ops_rule (c := ob2_1) rfl
def ob2_2 : List IS := [ip 9 (pFaddr 0 (tg 2)),
  ip 10 (pFaddr 1 (tg 9)),
  il 11 (tg 10) (mLoad1 (tg 10)),
  ip 12 (pFaddr 2 (tg 2)),
  il 13 (tg 12) (mLoad1 (tg 12)),
  ip 14 (pIaddrS 11 (tg 11) (tg 13)),
  il 15 (tg 14) (mLoadN 11 (tg 14)),
  im 1 5 (mAlloc [(.int .i64 0), (.int .i64 0), (.int .i64 0), (.int .i64 0), (.slice none 0 0), (.slice none 0 0), (.slice none 0 0), (.int .i64 0), (.int .i64 0), (.int .i64 0), (.int .i64 0)]),
  im0 3 (mStore 11 (tg 5) (tg 15))]
@[simp] def ob2_2_ap := ops_rule (c := ob2_2) rfl
def ob2_3 : List IS := [ip 17 (pFaddr 7 (tg 5)),
  il 18 (tg 17) (mLoad1 (tg 17)),
  im 3 19 (mCall 41 [(tg 18)]),
  ip 16 (pMov (tg 19)),
  ip 20 (pExtract (tg 16) 0),
  ip 21 (pExtract (tg 16) 1),
  ip 6 (pMov (tg 20)),
  ip 7 (pMov (tg 21))]
@[simp] def ob2_3_ap := ops_rule (c := ob2_3) rfl
def ob2_4 : List DA := [⟨CI.load (tg 5) (mLoadN 11 (tg 5)), (some 22), none, 0, []⟩,
  ⟨CI.pure (pFaddr 3 (tg 2)), (some 23), none, 1, []⟩,
  ⟨CI.load (tg 23) (mLoad1 (tg 23)), (some 24), none, 2, []⟩,
  ⟨CI.mem 3 (mCall 42 [(tg 22), (tg 24)]), (some 25), none, 3, []⟩,
  ⟨CI.pure (pMov (tg 7)), (some 26), none, 4, []⟩,
  ⟨CI.pure (pFaddr 5 (tg 5)), (some 27), none, 5, []⟩,
  ⟨CI.load (tg 27) (mLoad1 (tg 27)), (some 28), none, 6, [3]⟩,
  ⟨CI.pure (pFaddr 3 (tg 2)), (some 29), none, 7, []⟩,
  ⟨CI.load (tg 29) (mLoad1 (tg 29)), (some 30), none, 8, [3]⟩,
  ⟨CI.mem 3 (mCall 43 [(tg 28), (tg 30)]), (some 31), none, 9, []⟩,
  ⟨CI.pure (pBuild [(.int .i64 0), (.int .i64 0), (.int .i64 0), (.int .u64 0), (.bool false), (.bool false)] [(0, 1, (cv (.int .i64 2))), (1, 1, (tg 25)), (2, 1, (tg 26)), (4, 1, (cv (.bool true))), (3, 1, (tg 31))]), (some 32), none, 10, []⟩,
  ⟨CI.mem 1 (mAlloc [(.int .i64 0), (.int .i64 0), (.int .i64 0), (.int .u64 0), (.bool false), (.bool false)]), (some 8), none, 11, []⟩,
  ⟨CI.mem 3 (mStore 6 (tg 8) (tg 32)), none, none, 12, []⟩]
@[simp] def ob2_4_ap := das_rule (c := ob2_4) rfl
def ob2_5 : List IS := [ip 33 (pFaddr 0 (tg 5)),
  il 34 (tg 33) (mLoad1 (tg 33)),
  ip 35 (pBin .eql (tg 34) (cv (.int .i64 5)))]
@[simp] def ob2_5_ap := ops_rule (c := ob2_5) rfl
def ob2_6 : List IS := [ip 36 (pFaddr 3 (tg 8)),
  il 37 (tg 36) (mLoad1 (tg 36)),
  ip 38 (pMov (tg 1)),
  ip 39 (pBin .add (tg 37) (tg 38)),
  ip 40 (pFaddr 3 (tg 8)),
  im0 3 (mStore 1 (tg 40) (tg 39))]
@[simp] def ob2_6_ap := ops_rule (c := ob2_6) rfl
def cb2_1 : SC := sCond (tg 35) (sReg (seqI ob2_6)) sSkip
@[simp] def cb2_1_ap := cond_rule (c := cb2_1) rfl
def cb2_2 : SC := sSeq (sReg (seqI ob2_5)) cb2_1
@[simp] def cb2_2_ap := seq_rule (c := cb2_2) rfl
def ob2_7 : List IS := [ip 41 (pFaddr 0 (tg 5)),
  il 42 (tg 41) (mLoad1 (tg 41)),
  ip 43 (pBin .eql (tg 42) (cv (.int .i64 6)))]
@[simp] def ob2_7_ap := ops_rule (c := ob2_7) rfl
def ob2_8 : List IS := [ip 44 (pFaddr 3 (tg 8)),
  il 45 (tg 44) (mLoad1 (tg 44)),
  ip 46 (pMov (tg 1)),
  ip 47 (pBin .neq (tg 45) (tg 46))]
@[simp] def ob2_8_ap := ops_rule (c := ob2_8) rfl
def ob2_9 : List IS := [ip 48 (pBuild [(.int .i64 0), (.int .i64 0), (.int .i64 0), (.int .u64 0), (.bool false), (.bool false)] []),
  im0 3 (mStore 6 (tg 4) (tg 48))]
@[simp] def ob2_9_ap := ops_rule (c := ob2_9) rfl
def cb2_3 : SC := sSeq (sReg (seqI ob2_9)) sRet
@[simp] def cb2_3_ap := seq_rule (c := cb2_3) rfl
def cb2_4 : SC := sCond (tg 47) cb2_3 sSkip
@[simp] def cb2_4_ap := cond_rule (c := cb2_4) rfl
def cb2_5 : SC := sSeq (sReg (seqI ob2_8)) cb2_4
@[simp] def cb2_5_ap := seq_rule (c := cb2_5) rfl
def ob2_10 : List IS := [ip 49 (pFaddr 6 (tg 5)),
  il 50 (tg 49) (mLoad1 (tg 49)),
  ip 51 (pFaddr 3 (tg 2)),
  il 52 (tg 51) (mLoad1 (tg 51)),
  im 3 53 (mCall 43 [(tg 50), (tg 52)]),
  ip 54 (pFaddr 3 (tg 8)),
  im0 3 (mStore 1 (tg 54) (tg 53))]
@[simp] def ob2_10_ap := ops_rule (c := ob2_10) rfl
def cb2_6 : SC := sSeq cb2_5 (sReg (seqI ob2_10))
@[simp] def cb2_6_ap := seq_rule (c := cb2_6) rfl
def cb2_7 : SC := sCond (tg 43) cb2_6 sSkip
@[simp] def cb2_7_ap := cond_rule (c := cb2_7) rfl
def cb2_8 : SC := sSeq (sReg (seqI ob2_7)) cb2_7
@[simp] def cb2_8_ap := seq_rule (c := cb2_8) rfl
def ob2_11 : List IS := [il 55 (tg 8) (mLoadN 6 (tg 8)),
  im0 3 (mStore 6 (tg 4) (tg 55))]
@[simp] def ob2_11_ap := ops_rule (c := ob2_11) rfl
def cb2_9 : SC := sSeq (sReg (seqI ob2_11)) sRet
@[simp] def cb2_9_ap := seq_rule (c := cb2_9) rfl
def cb2_10 : SC := sSeq cb2_8 cb2_9
@[simp] def cb2_10_ap := seq_rule (c := cb2_10) rfl
def cb2_11 : SC := sSeq cb2_2 cb2_10
@[simp] def cb2_11_ap := seq_rule (c := cb2_11) rfl
def cb2_12 : SC := sSeq (sAny ob2_4) cb2_11
@[simp] def cb2_12_ap := seq_rule (c := cb2_12) rfl
def cb2_13 : SC := sSeq (sReg (seqI ob2_3)) cb2_12
@[simp] def cb2_13_ap := seq_rule (c := cb2_13) rfl
def cb2_14 : SC := sSeq (sReg (seqI ob2_2)) cb2_13
@[simp] def cb2_14_ap := seq_rule (c := cb2_14) rfl
def cb2_15 : SC := sSeq (sReg (seqI ob2_1)) cb2_14
@[simp] def cb2_15_ap := seq_rule (c := cb2_15) rfl
def db2 : DFn := ⟨cb2_15, 56, [.cell 4 6]⟩
theorem db2_ok : fnOf Tryz.prog 21 = some db2 := by kernel_rfl
def ob3_1 : List IS := [im 1 2 (mBox (tg 0)),
  im 1 4 (mAlloc [(.int .i64 0), (.slice none 0 0), (.int .i64 0), (.slice none 0 0)])]
@[simp] def ob3_1_ap := ops_rule (c := ob3_1) rfl
def ob3_2 : List IS := [ip 6 (pFaddr 0 (tg 2)),
  ip 7 (pFaddr 1 (tg 6)),
  il 8 (tg 7) (mLoad1 (tg 7)),
  ip 9 (pFaddr 2 (tg 2)),
  il 10 (tg 9) (mLoad1 (tg 9)),
  ip 11 (pIaddrS 11 (tg 8) (tg 10)),
  il 12 (tg 11) (mLoadN 11 (tg 11)),
  im 1 5 (mAlloc [(.int .i64 0), (.int .i64 0), (.int .i64 0), (.int .i64 0), (.slice none 0 0), (.slice none 0 0), (.slice none 0 0), (.int .i64 0), (.int .i64 0), (.int .i64 0), (.int .i64 0)]),
  im0 3 (mStore 11 (tg 5) (tg 12))]
@[simp] def ob3_2_ap := ops_rule (c := ob3_2) rfl
def ob3_3 : List IS := [ip 13 (pFaddr 0 (tg 5)),
  il 14 (tg 13) (mLoad1 (tg 13)),
  ip 15 (pBin .eql (tg 14) (cv (.int .i64 3))),
  ip 16 (pMov (tg 15)),
  gd 16 false (some 17) (ip 17 (pFaddr 0 (tg 5))),
  gd 16 false (some 18) (il 18 (tg 17) (mLoad1 (tg 17))),
  gd 16 false (some 19) (ip 19 (pBin .eql (tg 18) (cv (.int .i64 7)))),
  ip 20 (pPick (tg 16) (cv (.bool true)) (tg 19)),
  ip 21 (pMov (tg 20)),
  gd 21 false (some 22) (ip 22 (pFaddr 0 (tg 5))),
  gd 21 false (some 23) (il 23 (tg 22) (mLoad1 (tg 22))),
  gd 21 false (some 24) (ip 24 (pBin .eql (tg 23) (cv (.int .i64 8)))),
  ip 25 (pPick (tg 21) (cv (.bool true)) (tg 24))]
@[simp] def ob3_3_ap := ops_rule (c := ob3_3) rfl
def ob3_4 : List IS := [ip 26 (pFaddr 2 (tg 2)),
  il 27 (tg 26) (mLoad1 (tg 26)),
  ip 28 (pBin .add (tg 27) (cv (.int .i64 1))),
  ip 29 (pFaddr 2 (tg 2)),
  im0 3 (mStore 1 (tg 29) (tg 28))]
@[simp] def ob3_4_ap := ops_rule (c := ob3_4) rfl
def ob3_5 : List IS := [il 30 (tg 2) (mLoadN 4 (tg 2)),
  im0 3 (mStore 4 (tg 4) (tg 30))]
@[simp] def ob3_5_ap := ops_rule (c := ob3_5) rfl
def cb3_1 : SC := sSeq (sReg (seqI ob3_5)) sRet
@[simp] def cb3_1_ap := seq_rule (c := cb3_1) rfl
def cb3_2 : SC := sSeq (sReg (seqI ob3_4)) cb3_1
@[simp] def cb3_2_ap := seq_rule (c := cb3_2) rfl
def cb3_3 : SC := sCond (tg 25) cb3_2 sSkip
@[simp] def cb3_3_ap := cond_rule (c := cb3_3) rfl
def cb3_4 : SC := sSeq (sReg (seqI ob3_3)) cb3_3
@[simp] def cb3_4_ap := seq_rule (c := cb3_4) rfl
def ob3_6 : List IS := [il 31 (tg 2) (mLoadN 4 (tg 2)),
  ip 32 (pFaddr 1 (tg 5)),
  il 33 (tg 32) (mLoad1 (tg 32)),
  ip 34 (pMov (tg 1)),
  im 3 35 (mCall 44 [(tg 31), (tg 33), (tg 34)]),
  im0 3 (mStore 4 (tg 4) (tg 35))]
@[simp] def ob3_6_ap := ops_rule (c := ob3_6) rfl
def cb3_5 : SC := sSeq (sReg (seqI ob3_6)) sRet
@[simp] def cb3_5_ap := seq_rule (c := cb3_5) rfl
def cb3_6 : SC := sSeq cb3_4 cb3_5
@[simp] def cb3_6_ap := seq_rule (c := cb3_6) rfl
def cb3_7 : SC := sSeq (sReg (seqI ob3_2)) cb3_6
@[simp] def cb3_7_ap := seq_rule (c := cb3_7) rfl
def cb3_8 : SC := sSeq (sReg (seqI ob3_1)) cb3_7
@[simp] def cb3_8_ap := seq_rule (c := cb3_8) rfl
def db3 : DFn := ⟨cb3_8, 36, [.cell 4 4]⟩
theorem db3_ok : fnOf Tryz.prog 22 = some db3 := by kernel_rfl
def ob4_1 : List IS := [im 1 1 (mBox (tg 0)),
  ip 2 (pMov (cv (.bool false)))]
@[simp] def ob4_1_ap := ops_rule (c := ob4_1) rfl
def ob4_2 : List IS := [ip 4 (pFaddr 0 (tg 1)),
  ip 5 (pFaddr 1 (tg 4)),
  il 6 (tg 5) (mLoad1 (tg 5)),
  ip 7 (pFaddr 2 (tg 1)),
  il 8 (tg 7) (mLoad1 (tg 7)),
  ip 9 (pIaddrS 11 (tg 6) (tg 8)),
  ip 10 (pFaddr 0 (tg 9)),
  il 11 (tg 10) (mLoad1 (tg 10)),
  ip 3 (pMov (tg 11))]
@[simp] def ob4_2_ap := ops_rule (c := ob4_2) rfl
def ob4_3 : List IS := [ip 12 (pMov (tg 3)),
  ip 13 (pBin .eql (tg 12) (cv (.int .i64 1))),
  ip 14 (pMov (tg 13)),
  gd 14 false (some 15) (ip 15 (pMov (tg 3))),
  gd 14 false (some 16) (ip 16 (pBin .eql (tg 15) (cv (.int .i64 9)))),
  ip 17 (pPick (tg 14) (cv (.bool true)) (tg 16)),
  ip 18 (pMov (tg 17)),
  gd 18 false (some 19) (ip 19 (pMov (tg 3))),
  gd 18 false (some 20) (ip 20 (pBin .eql (tg 19) (cv (.int .i64 10)))),
  ip 21 (pPick (tg 18) (cv (.bool true)) (tg 20)),
  ip 2 (pMov (tg 21))]
@[simp] def ob4_3_ap := ops_rule (c := ob4_3) rfl
def cb4_1 : SC := sSeq (sReg (seqI ob4_3)) sRet
@[simp] def cb4_1_ap := seq_rule (c := cb4_1) rfl
def cb4_2 : SC := sSeq (sReg (seqI ob4_2)) cb4_1
@[simp] def cb4_2_ap := seq_rule (c := cb4_2) rfl
def cb4_3 : SC := sSeq (sReg (seqI ob4_1)) cb4_2
@[simp] def cb4_3_ap := seq_rule (c := cb4_3) rfl
def db4 : DFn := ⟨cb4_3, 22, [.t 2]⟩
theorem db4_ok : fnOf Tryz.prog 23 = some db4 := by kernel_rfl
def ob5_1 : List IS := [im 1 1 (mBox (tg 0)),
  im 1 2 (mAlloc [(.int .i64 0), (.slice none 0 0), (.int .i64 0), (.slice none 0 0)])]
@[simp] def ob5_1_ap := ops_rule (c := ob5_1) rfl
def ob5_2 : List IS := [ip 4 (pFaddr 0 (tg 1)),
  ip 5 (pFaddr 1 (tg 4)),
  il 6 (tg 5) (mLoad1 (tg 5)),
  ip 7 (pFaddr 2 (tg 1)),
  il 8 (tg 7) (mLoad1 (tg 7)),
  ip 9 (pIaddrS 11 (tg 6) (tg 8)),
  il 10 (tg 9) (mLoadN 11 (tg 9)),
  im 1 3 (mAlloc [(.int .i64 0), (.int .i64 0), (.int .i64 0), (.int .i64 0), (.slice none 0 0), (.slice none 0 0), (.slice none 0 0), (.int .i64 0), (.int .i64 0), (.int .i64 0), (.int .i64 0)]),
  im0 3 (mStore 11 (tg 3) (tg 10))]
@[simp] def ob5_2_ap := ops_rule (c := ob5_2) rfl
def ob5_3 : List IS := [ip 11 (pFaddr 0 (tg 3)),
  il 12 (tg 11) (mLoad1 (tg 11)),
  ip 13 (pBin .eql (tg 12) (cv (.int .i64 1)))]
@[simp] def ob5_3_ap := ops_rule (c := ob5_3) rfl
def ob5_4 : List DA := [⟨CI.load (tg 1) (mLoadN 4 (tg 1)), (some 14), none, 0, []⟩,
  ⟨CI.pure (pFaddr 1 (tg 3)), (some 15), none, 1, []⟩,
  ⟨CI.load (tg 15) (mLoad1 (tg 15)), (some 16), none, 2, []⟩,
  ⟨CI.pure (pFaddr 5 (tg 3)), (some 17), none, 3, []⟩,
  ⟨CI.load (tg 17) (mLoad1 (tg 17)), (some 18), none, 4, []⟩,
  ⟨CI.pure (pFaddr 3 (tg 1)), (some 19), none, 5, []⟩,
  ⟨CI.load (tg 19) (mLoad1 (tg 19)), (some 20), none, 6, []⟩,
  ⟨CI.mem 3 (mCall 43 [(tg 18), (tg 20)]), (some 21), none, 7, [0, 2]⟩,
  ⟨CI.mem 3 (mCall 44 [(tg 14), (tg 16), (tg 21)]), (some 22), none, 8, []⟩,
  ⟨CI.mem 3 (mStore 4 (tg 2) (tg 22)), none, none, 9, []⟩]
@[simp] def ob5_4_ap := das_rule (c := ob5_4) rfl
def cb5_1 : SC := sSeq (sAny ob5_4) sRet
@[simp] def cb5_1_ap := seq_rule (c := cb5_1) rfl
def cb5_2 : SC := sCond (tg 13) cb5_1 sSkip
@[simp] def cb5_2_ap := cond_rule (c := cb5_2) rfl
def cb5_3 : SC := sSeq (sReg (seqI ob5_3)) cb5_2
@[simp] def cb5_3_ap := seq_rule (c := cb5_3) rfl
def ob5_5 : List IS := [ip 23 (pFaddr 2 (tg 1)),
  il 24 (tg 23) (mLoad1 (tg 23)),
  ip 25 (pBin .add (tg 24) (cv (.int .i64 1))),
  ip 26 (pFaddr 2 (tg 1)),
  im0 3 (mStore 1 (tg 26) (tg 25))]
@[simp] def ob5_5_ap := ops_rule (c := ob5_5) rfl
def ob5_6 : List IS := [ip 27 (pFaddr 0 (tg 3)),
  il 28 (tg 27) (mLoad1 (tg 27)),
  ip 29 (pBin .eql (tg 28) (cv (.int .i64 9))),
  ip 30 (pMov (tg 29)),
  gd 30 false (some 31) (ip 31 (pFaddr 5 (tg 3))),
  gd 30 false (some 32) (il 32 (tg 31) (mLoad1 (tg 31))),
  gd 30 false (some 33) (ip 33 (pFaddr 3 (tg 1))),
  gd 30 false (some 34) (il 34 (tg 33) (mLoad1 (tg 33))),
  gd 30 false (some 35) (im 3 35 (mCall 43 [(tg 32), (tg 34)])),
  gd 30 false (some 36) (ip 36 (pBin .eql (tg 35) (cv (.int .u64 0)))),
  ip 37 (pPick (tg 30) (cv (.bool true)) (tg 36))]
@[simp] def ob5_6_ap := ops_rule (c := ob5_6) rfl
def ob5_7 : List IS := [ip 38 (pFaddr 8 (tg 3)),
  il 39 (tg 38) (mLoad1 (tg 38)),
  ip 40 (pFaddr 2 (tg 1)),
  im0 3 (mStore 1 (tg 40) (tg 39))]
@[simp] def ob5_7_ap := ops_rule (c := ob5_7) rfl
def cb5_4 : SC := sCond (tg 37) (sReg (seqI ob5_7)) sSkip
@[simp] def cb5_4_ap := cond_rule (c := cb5_4) rfl
def cb5_5 : SC := sSeq (sReg (seqI ob5_6)) cb5_4
@[simp] def cb5_5_ap := seq_rule (c := cb5_5) rfl
def ob5_8 : List IS := [il 41 (tg 1) (mLoadN 4 (tg 1)),
  im0 3 (mStore 4 (tg 2) (tg 41))]
@[simp] def ob5_8_ap := ops_rule (c := ob5_8) rfl
def cb5_6 : SC := sSeq (sReg (seqI ob5_8)) sRet
@[simp] def cb5_6_ap := seq_rule (c := cb5_6) rfl
def cb5_7 : SC := sSeq cb5_5 cb5_6
@[simp] def cb5_7_ap := seq_rule (c := cb5_7) rfl
def cb5_8 : SC := sSeq (sReg (seqI ob5_5)) cb5_7
@[simp] def cb5_8_ap := seq_rule (c := cb5_8) rfl
def cb5_9 : SC := sSeq cb5_3 cb5_8
@[simp] def cb5_9_ap := seq_rule (c := cb5_9) rfl
def cb5_10 : SC := sSeq (sReg (seqI ob5_2)) cb5_9
@[simp] def cb5_10_ap := seq_rule (c := cb5_10) rfl
def cb5_11 : SC := sSeq (sReg (seqI ob5_1)) cb5_10
@[simp] def cb5_11_ap := seq_rule (c := cb5_11) rfl
def db5 : DFn := ⟨cb5_11, 42, [.cell 2 4]⟩
theorem db5_ok : fnOf Tryz.prog 24 = some db5 := by kernel_rfl
def ob6_1 : List IS := [im 1 1 (mBox (tg 0)),
  im 1 2 (mAlloc [(.int .i64 0), (.int .i64 0), (.int .i64 0), (.int .u64 0), (.bool false), (.bool false)])]
@[simp] def ob6_1_ap := ops_rule (c := ob6_1) rfl
def ob6_2 : List IS := [ip 6 (pFaddr 0 (tg 1)),
  ip 7 (pFaddr 1 (tg 6)),
  il 8 (tg 7) (mLoad1 (tg 7)),
  ip 9 (pFaddr 2 (tg 1)),
  il 10 (tg 9) (mLoad1 (tg 9)),
  ip 11 (pIaddrS 11 (tg 8) (tg 10)),
  il 12 (tg 11) (mLoadN 11 (tg 11)),
  im 1 3 (mAlloc [(.int .i64 0), (.int .i64 0), (.int .i64 0), (.int .i64 0), (.slice none 0 0), (.slice none 0 0), (.slice none 0 0), (.int .i64 0), (.int .i64 0), (.int .i64 0), (.int .i64 0)]),
  im0 3 (mStore 11 (tg 3) (tg 12))]
@[simp] def ob6_2_ap := ops_rule (c := ob6_2) rfl
def ob6_3 : List IS := [ip 14 (pFaddr 7 (tg 3)),
  il 15 (tg 14) (mLoad1 (tg 14)),
  im 3 16 (mCall 41 [(tg 15)]),
  ip 13 (pMov (tg 16)),
  ip 17 (pExtract (tg 13) 0),
  ip 18 (pExtract (tg 13) 1),
  ip 4 (pMov (tg 17)),
  ip 5 (pMov (tg 18))]
@[simp] def ob6_3_ap := ops_rule (c := ob6_3) rfl
def ob6_4 : List IS := [ip 19 (pFaddr 0 (tg 3)),
  il 20 (tg 19) (mLoad1 (tg 19))]
@[simp] def ob6_4_ap := ops_rule (c := ob6_4) rfl
def ob6_5 : List IS := [ip 22 (pBin .eql (tg 20) (cv (.int .i64 2))),
  ip 21 (pMov (tg 22))]
@[simp] def ob6_5_ap := ops_rule (c := ob6_5) rfl
def ob6_6 : List DA := [⟨CI.load (tg 3) (mLoadN 11 (tg 3)), (some 23), none, 0, []⟩,
  ⟨CI.pure (pFaddr 3 (tg 1)), (some 24), none, 1, []⟩,
  ⟨CI.load (tg 24) (mLoad1 (tg 24)), (some 25), none, 2, []⟩,
  ⟨CI.mem 3 (mCall 42 [(tg 23), (tg 25)]), (some 26), none, 3, []⟩,
  ⟨CI.pure (pFaddr 7 (tg 3)), (some 27), none, 4, []⟩,
  ⟨CI.load (tg 27) (mLoad1 (tg 27)), (some 28), none, 5, [3]⟩,
  ⟨CI.pure (pBuild [(.int .i64 0), (.int .i64 0), (.int .i64 0), (.int .u64 0), (.bool false), (.bool false)] [(0, 1, (cv (.int .i64 1))), (1, 1, (tg 26)), (2, 1, (tg 28))]), (some 29), none, 6, []⟩,
  ⟨CI.mem 3 (mStore 6 (tg 2) (tg 29)), none, none, 7, []⟩]
@[simp] def ob6_6_ap := das_rule (c := ob6_6) rfl
def cb6_1 : SC := sSeq (sAny ob6_6) sRet
@[simp] def cb6_1_ap := seq_rule (c := cb6_1) rfl
def ob6_7 : List IS := [ip 31 (pBin .eql (tg 20) (cv (.int .i64 3))),
  ip 30 (pMov (tg 31))]
@[simp] def ob6_7_ap := ops_rule (c := ob6_7) rfl
def ob6_8 : List DA := [⟨CI.load (tg 3) (mLoadN 11 (tg 3)), (some 32), none, 0, []⟩,
  ⟨CI.pure (pFaddr 3 (tg 1)), (some 33), none, 1, []⟩,
  ⟨CI.load (tg 33) (mLoad1 (tg 33)), (some 34), none, 2, []⟩,
  ⟨CI.mem 3 (mCall 42 [(tg 32), (tg 34)]), (some 35), none, 3, []⟩,
  ⟨CI.pure (pFaddr 7 (tg 3)), (some 36), none, 4, []⟩,
  ⟨CI.load (tg 36) (mLoad1 (tg 36)), (some 37), none, 5, [3]⟩,
  ⟨CI.pure (pFaddr 5 (tg 3)), (some 38), none, 6, []⟩,
  ⟨CI.load (tg 38) (mLoad1 (tg 38)), (some 39), none, 7, [3]⟩,
  ⟨CI.pure (pFaddr 3 (tg 1)), (some 40), none, 8, []⟩,
  ⟨CI.load (tg 40) (mLoad1 (tg 40)), (some 41), none, 9, [3]⟩,
  ⟨CI.mem 3 (mCall 43 [(tg 39), (tg 41)]), (some 42), none, 10, [5]⟩,
  ⟨CI.pure (pBuild [(.int .i64 0), (.int .i64 0), (.int .i64 0), (.int .u64 0), (.bool false), (.bool false)] [(0, 1, (cv (.int .i64 2))), (1, 1, (tg 35)), (2, 1, (tg 37)), (3, 1, (tg 42))]), (some 43), none, 11, []⟩,
  ⟨CI.mem 3 (mStore 6 (tg 2) (tg 43)), none, none, 12, []⟩]
@[simp] def ob6_8_ap := das_rule (c := ob6_8) rfl
def cb6_2 : SC := sSeq (sAny ob6_8) sRet
@[simp] def cb6_2_ap := seq_rule (c := cb6_2) rfl
def ob6_9 : List IS := [ip 45 (pBin .eql (tg 20) (cv (.int .i64 7))),
  ip 44 (pMov (tg 45))]
@[simp] def ob6_9_ap := ops_rule (c := ob6_9) rfl
def ob6_10 : List IS := [ip 46 (pFaddr 7 (tg 3)),
  il 47 (tg 46) (mLoad1 (tg 46)),
  ip 48 (pBuild [(.int .i64 0), (.int .i64 0), (.int .i64 0), (.int .u64 0), (.bool false), (.bool false)] [(0, 1, (cv (.int .i64 3))), (2, 1, (tg 47))]),
  im0 3 (mStore 6 (tg 2) (tg 48))]
@[simp] def ob6_10_ap := ops_rule (c := ob6_10) rfl
def cb6_3 : SC := sSeq (sReg (seqI ob6_10)) sRet
@[simp] def cb6_3_ap := seq_rule (c := cb6_3) rfl
def ob6_11 : List IS := [ip 50 (pBin .eql (tg 20) (cv (.int .i64 8))),
  ip 49 (pMov (tg 50))]
@[simp] def ob6_11_ap := ops_rule (c := ob6_11) rfl
def ob6_12 : List IS := [ip 51 (pFaddr 5 (tg 3)),
  il 52 (tg 51) (mLoad1 (tg 51)),
  ip 53 (pFaddr 3 (tg 1)),
  il 54 (tg 53) (mLoad1 (tg 53)),
  im 3 55 (mCall 43 [(tg 52), (tg 54)]),
  ip 56 (pBuild [(.int .i64 0), (.int .i64 0), (.int .i64 0), (.int .u64 0), (.bool false), (.bool false)] [(0, 1, (cv (.int .i64 4))), (3, 1, (tg 55))]),
  im0 3 (mStore 6 (tg 2) (tg 56))]
@[simp] def ob6_12_ap := ops_rule (c := ob6_12) rfl
def cb6_4 : SC := sSeq (sReg (seqI ob6_12)) sRet
@[simp] def cb6_4_ap := seq_rule (c := cb6_4) rfl
def cb6_5 : SC := sCond (tg 49) cb6_4 sSkip
@[simp] def cb6_5_ap := cond_rule (c := cb6_5) rfl
def cb6_6 : SC := sSeq (sReg (seqI ob6_11)) cb6_5
@[simp] def cb6_6_ap := seq_rule (c := cb6_6) rfl
def cb6_7 : SC := sCond (tg 44) cb6_3 cb6_6
@[simp] def cb6_7_ap := cond_rule (c := cb6_7) rfl
def cb6_8 : SC := sSeq (sReg (seqI ob6_9)) cb6_7
@[simp] def cb6_8_ap := seq_rule (c := cb6_8) rfl
def cb6_9 : SC := sCond (tg 30) cb6_2 cb6_8
@[simp] def cb6_9_ap := cond_rule (c := cb6_9) rfl
def cb6_10 : SC := sSeq (sReg (seqI ob6_7)) cb6_9
@[simp] def cb6_10_ap := seq_rule (c := cb6_10) rfl
def cb6_11 : SC := sCond (tg 21) cb6_1 cb6_10
@[simp] def cb6_11_ap := cond_rule (c := cb6_11) rfl
def cb6_12 : SC := sSeq (sReg (seqI ob6_5)) cb6_11
@[simp] def cb6_12_ap := seq_rule (c := cb6_12) rfl
def cb6_13 : SC := sBlock 0 cb6_12
@[simp] def cb6_13_ap := block_rule (c := cb6_13) rfl
def cb6_14 : SC := sSeq (sReg (seqI ob6_4)) cb6_13
@[simp] def cb6_14_ap := seq_rule (c := cb6_14) rfl
def ob6_13 : List IS := [il 57 (tg 3) (mLoadN 11 (tg 3)),
  ip 58 (pFaddr 3 (tg 1)),
  il 59 (tg 58) (mLoad1 (tg 58)),
  im 3 60 (mCall 42 [(tg 57), (tg 59)]),
  ip 61 (pMov (tg 4)),
  ip 62 (pBuild [(.int .i64 0), (.int .i64 0), (.int .i64 0), (.int .u64 0), (.bool false), (.bool false)] [(0, 1, (cv (.int .i64 1))), (1, 1, (tg 60)), (2, 1, (tg 61)), (4, 1, (cv (.bool true)))]),
  im0 3 (mStore 6 (tg 2) (tg 62))]
@[simp] def ob6_13_ap := ops_rule (c := ob6_13) rfl
def cb6_15 : SC := sSeq (sReg (seqI ob6_13)) sRet
@[simp] def cb6_15_ap := seq_rule (c := cb6_15) rfl
def cb6_16 : SC := sSeq cb6_14 cb6_15
@[simp] def cb6_16_ap := seq_rule (c := cb6_16) rfl
def cb6_17 : SC := sSeq (sReg (seqI ob6_3)) cb6_16
@[simp] def cb6_17_ap := seq_rule (c := cb6_17) rfl
def cb6_18 : SC := sSeq (sReg (seqI ob6_2)) cb6_17
@[simp] def cb6_18_ap := seq_rule (c := cb6_18) rfl
def cb6_19 : SC := sSeq (sReg (seqI ob6_1)) cb6_18
@[simp] def cb6_19_ap := seq_rule (c := cb6_19) rfl
def db6 : DFn := ⟨cb6_19, 63, [.cell 2 6]⟩
theorem db6_ok : fnOf Tryz.prog 25 = some db6 := by kernel_rfl
def oc2_1 : List IS := [ip 4 (pMov (cv (.bool false)))]
@[simp] def oc2_1_ap := ops_rule (c := oc2_1) rfl
def oc2_2 : List IS := [ip 6 (pMov (tg 0)),
  ip 7 (pLen (tg 6)),
  ip 8 (pMov (tg 1)),
  ip 9 (pLen (tg 8)),
  ip 10 (pBin .neq (tg 7) (tg 9))]
@[simp] def oc2_2_ap := ops_rule (c := oc2_2) rfl
def oc2_3 : List IS := [ip 4 (pMov (cv (.bool false)))]
def cc2_1 : SC := sSeq (sReg (seqI oc2_3)) sRet
def cc2_2 : SC := sCond (tg 10) cc2_1 sSkip
@[simp] def cc2_2_ap := cond_rule (c := cc2_2) rfl
def cc2_3 : SC := sSeq (sReg (seqI oc2_2)) cc2_2
@[simp] def cc2_3_ap := seq_rule (c := cc2_3) rfl
def oc2_4 : List IS := [ip 5 (pMov (cv (.int .i64 0)))]
@[simp] def oc2_4_ap := ops_rule (c := oc2_4) rfl
def oc2_5 : List IS := [ip 11 (pMov (tg 5)),
  ip 12 (pMov (tg 0)),
  ip 13 (pLen (tg 12)),
  ip 14 (pBin .lss (tg 11) (tg 13))]
@[simp] def oc2_5_ap := ops_rule (c := oc2_5) rfl
def cc2_4 : SC := sCond (tg 14) sSkip (sExit 0)
@[simp] def cc2_4_ap := cond_rule (c := cc2_4) rfl
def cc2_5 : SC := sSeq (sReg (seqI oc2_5)) cc2_4
@[simp] def cc2_5_ap := seq_rule (c := cc2_5) rfl
def oc2_6 : List DA := [⟨CI.pure (pMov (tg 0)), (some 17), none, 0, []⟩,
  ⟨CI.pure (pMov (tg 5)), (some 18), none, 1, []⟩,
  ⟨CI.pure (pIaddrS 4 (tg 17) (tg 18)), (some 19), none, 2, []⟩,
  ⟨CI.load (tg 19) (mLoadN 4 (tg 19)), (some 20), none, 3, []⟩,
  ⟨CI.pure (pMov (tg 1)), (some 21), none, 4, []⟩,
  ⟨CI.pure (pMov (tg 5)), (some 22), none, 5, []⟩,
  ⟨CI.pure (pIaddrS 4 (tg 21) (tg 22)), (some 23), none, 6, []⟩,
  ⟨CI.load (tg 23) (mLoadN 4 (tg 23)), (some 24), none, 7, []⟩,
  ⟨CI.pure (pEqF true [1, 1, 1, 1] (tg 20) (tg 24)), (some 25), none, 8, []⟩]
@[simp] def oc2_6_ap := das_rule (c := oc2_6) rfl
def oc2_7 : List IS := [ip 4 (pMov (cv (.bool false)))]
def cc2_6 : SC := sSeq (sReg (seqI oc2_7)) sRet
def cc2_7 : SC := sCond (tg 25) cc2_6 sSkip
@[simp] def cc2_7_ap := cond_rule (c := cc2_7) rfl
def cc2_8 : SC := sSeq (sAny oc2_6) cc2_7
@[simp] def cc2_8_ap := seq_rule (c := cc2_8) rfl
def cc2_9 : SC := sBlock 1 cc2_8
@[simp] def cc2_9_ap := block_rule (c := cc2_9) rfl
def oc2_8 : List IS := [ip 15 (pMov (tg 5)),
  ip 16 (pBin .add (tg 15) (cv (.int .i64 1))),
  ip 5 (pMov (tg 16))]
@[simp] def oc2_8_ap := ops_rule (c := oc2_8) rfl
def cc2_10 : SC := sSeq cc2_9 (sReg (seqI oc2_8))
@[simp] def cc2_10_ap := seq_rule (c := cc2_10) rfl
def cc2_11 : SC := sSeq cc2_5 cc2_10
@[simp] def cc2_11_ap := seq_rule (c := cc2_11) rfl
def cc2_12 : SC := sLoop cc2_11
def cc2_13 : SC := sBlock 0 cc2_12
@[simp] def cc2_13_ap := block_rule (c := cc2_13) rfl
def cc2_14 : SC := sSeq (sReg (seqI oc2_4)) cc2_13
@[simp] def cc2_14_ap := seq_rule (c := cc2_14) rfl
def oc2_9 : List IS := [ip 4 (pMov (cv (.bool true)))]
@[simp] def oc2_9_ap := ops_rule (c := oc2_9) rfl
def cc2_15 : SC := sSeq (sReg (seqI oc2_9)) sRet
@[simp] def cc2_15_ap := seq_rule (c := cc2_15) rfl
def cc2_16 : SC := sSeq cc2_14 cc2_15
@[simp] def cc2_16_ap := seq_rule (c := cc2_16) rfl
def cc2_17 : SC := sSeq cc2_3 cc2_16
@[simp] def cc2_17_ap := seq_rule (c := cc2_17) rfl
def cc2_18 : SC := sSeq (sReg (seqI oc2_1)) cc2_17
@[simp] def cc2_18_ap := seq_rule (c := cc2_18) rfl
def dc2 : DFn := ⟨cc2_18, 26, [.t 4]⟩
theorem dc2_ok : fnOf Tryz.prog 31 = some dc2 := by kernel_rfl
def oc6_1 : List IS := [im 1 3 (mBox (tg 0)),
  im 1 4 (mBox (tg 1)),
  im 1 5 (mBox (tg 2)),
  ip 6 (pMov (cv (.bool false)))]
@[simp] def oc6_1_ap := ops_rule (c := oc6_1) rfl
def oc6_2 : List IS := [ip 9 (pFaddr 0 (tg 3)),
  il 10 (tg 9) (mLoad1 (tg 9)),
  ip 11 (pBin .lss (tg 10) (cv (.int .i64 1))),
  ip 12 (pMov (tg 11)),
  gd 12 false (some 13) (ip 13 (pFaddr 0 (tg 3))),
  gd 12 false (some 14) (il 14 (tg 13) (mLoad1 (tg 13))),
  gd 12 false (some 15) (ip 15 (pBin .gtr (tg 14) (cv (.int .i64 10)))),
  ip 16 (pPick (tg 12) (cv (.bool true)) (tg 15)),
  ip 17 (pMov (tg 16)),
  gd 17 false (some 18) (ip 18 (pFaddr 0 (tg 3))),
  gd 17 false (some 19) (il 19 (tg 18) (mLoad1 (tg 18))),
  gd 17 false (some 20) (ip 20 (pFaddr 7 (tg 3))),
  gd 17 false (some 21) (il 21 (tg 20) (mLoad1 (tg 20))),
  gd 17 false (some 22) (im 3 22 (mCall 55 [(tg 19), (tg 21)])),
  gd 17 false (some 23) (ip 23 (pUn .not (tg 22))),
  ip 24 (pPick (tg 17) (cv (.bool true)) (tg 23))]
@[simp] def oc6_2_ap := ops_rule (c := oc6_2) rfl
def oc6_3 : List IS := [ip 6 (pMov (cv (.bool false)))]
@[simp] def oc6_3_ap := ops_rule (c := oc6_3) rfl
def cc6_1 : SC := sSeq (sReg (seqI oc6_3)) sRet
@[simp] def cc6_1_ap := seq_rule (c := cc6_1) rfl
def cc6_2 : SC := sCond (tg 24) cc6_1 sSkip
@[simp] def cc6_2_ap := cond_rule (c := cc6_2) rfl
def cc6_3 : SC := sSeq (sReg (seqI oc6_2)) cc6_2
@[simp] def cc6_3_ap := seq_rule (c := cc6_3) rfl
def oc6_4 : List IS := [ip 25 (pFaddr 0 (tg 3)),
  il 26 (tg 25) (mLoad1 (tg 25)),
  im 3 27 (mCall 56 [(tg 26)]),
  ip 28 (pMov (tg 27)),
  gd 28 true (some 29) (ip 29 (pFaddr 1 (tg 3))),
  gd 28 true (some 30) (il 30 (tg 29) (mLoad1 (tg 29))),
  gd 28 true (some 31) (ip 31 (pBin .lss (tg 30) (cv (.int .i64 0)))),
  gd 28 true (some 32) (ip 32 (pMov (tg 31))),
  gd 32 false (some 33) (ip 33 (pFaddr 1 (tg 3))),
  gd 32 false (some 34) (il 34 (tg 33) (mLoad1 (tg 33))),
  gd 32 false (some 35) (ip 35 (pFaddr 0 (tg 5))),
  gd 32 false (some 36) (il 36 (tg 35) (mLoad1 (tg 35))),
  gd 32 false (some 37) (ip 37 (pBin .geq (tg 34) (tg 36))),
  gd 28 true (some 38) (ip 38 (pPick (tg 32) (cv (.bool true)) (tg 37))),
  ip 39 (pPick (tg 28) (tg 38) (cv (.bool false))),
  ip 40 (pMov (tg 39)),
  gd 40 false (some 41) (ip 41 (pFaddr 0 (tg 3))),
  gd 40 false (some 42) (il 42 (tg 41) (mLoad1 (tg 41))),
  gd 40 false (some 43) (im 3 43 (mCall 56 [(tg 42)])),
  gd 40 false (some 44) (ip 44 (pUn .not (tg 43))),
  gd 40 false (some 45) (ip 45 (pMov (tg 44))),
  gd 45 true (some 46) (ip 46 (pFaddr 1 (tg 3))),
  gd 45 true (some 47) (il 47 (tg 46) (mLoad1 (tg 46))),
  gd 45 true (some 48) (ip 48 (pBin .neq (tg 47) (cv (.int .i64 0)))),
  gd 40 false (some 49) (ip 49 (pPick (tg 45) (tg 48) (cv (.bool false)))),
  ip 50 (pPick (tg 40) (cv (.bool true)) (tg 49))]
@[simp] def oc6_4_ap := ops_rule (c := oc6_4) rfl
def oc6_5 : List IS := [ip 6 (pMov (cv (.bool false)))]
@[simp] def oc6_5_ap := ops_rule (c := oc6_5) rfl
def cc6_4 : SC := sSeq (sReg (seqI oc6_5)) sRet
@[simp] def cc6_4_ap := seq_rule (c := cc6_4) rfl
def cc6_5 : SC := sCond (tg 50) cc6_4 sSkip
@[simp] def cc6_5_ap := cond_rule (c := cc6_5) rfl
def cc6_6 : SC := sSeq (sReg (seqI oc6_4)) cc6_5
@[simp] def cc6_6_ap := seq_rule (c := cc6_6) rfl
def oc6_6 : List IS := [ip 51 (pFaddr 0 (tg 3)),
  il 52 (tg 51) (mLoad1 (tg 51)),
  im 3 53 (mCall 57 [(tg 52)])]
@[simp] def oc6_6_ap := ops_rule (c := oc6_6) rfl
def oc6_7 : List IS := [ip 54 (pFaddr 3 (tg 3)),
  il 55 (tg 54) (mLoad1 (tg 54)),
  ip 7 (pMov (tg 55))]
@[simp] def oc6_7_ap := ops_rule (c := oc6_7) rfl
def oc6_8 : List IS := [ip 56 (pMov (tg 7)),
  ip 57 (pBin .eql (tg 56) (cv (.int .i64 0)))]
@[simp] def oc6_8_ap := ops_rule (c := oc6_8) rfl
def oc6_9 : List IS := [ip 7 (pMov (cv (.int .i64 1)))]
@[simp] def oc6_9_ap := ops_rule (c := oc6_9) rfl
def oc6_10 : List IS := [ip 58 (pMov (tg 7)),
  im 3 59 (mCall 58 [(tg 58)]),
  ip 60 (pUn .not (tg 59))]
@[simp] def oc6_10_ap := ops_rule (c := oc6_10) rfl
def oc6_11 : List IS := [ip 6 (pMov (cv (.bool false)))]
@[simp] def oc6_11_ap := ops_rule (c := oc6_11) rfl
def cc6_7 : SC := sSeq (sReg (seqI oc6_11)) sRet
@[simp] def cc6_7_ap := seq_rule (c := cc6_7) rfl
def cc6_8 : SC := sCond (tg 60) cc6_7 sSkip
@[simp] def cc6_8_ap := cond_rule (c := cc6_8) rfl
def cc6_9 : SC := sSeq (sReg (seqI oc6_10)) cc6_8
@[simp] def cc6_9_ap := seq_rule (c := cc6_9) rfl
def cc6_10 : SC := sCond (tg 57) (sReg (seqI oc6_9)) cc6_9
@[simp] def cc6_10_ap := cond_rule (c := cc6_10) rfl
def cc6_11 : SC := sSeq (sReg (seqI oc6_8)) cc6_10
@[simp] def cc6_11_ap := seq_rule (c := cc6_11) rfl
def oc6_12 : List IS := [ip 61 (pFaddr 2 (tg 3)),
  il 62 (tg 61) (mLoad1 (tg 61)),
  ip 63 (pBin .lss (tg 62) (cv (.int .i64 0))),
  ip 64 (pMov (tg 63)),
  gd 64 false (some 65) (ip 65 (pFaddr 2 (tg 3))),
  gd 64 false (some 66) (il 66 (tg 65) (mLoad1 (tg 65))),
  gd 64 false (some 67) (ip 67 (pFaddr 0 (tg 4))),
  gd 64 false (some 68) (il 68 (tg 67) (mLoad1 (tg 67))),
  gd 64 false (some 69) (ip 69 (pMov (tg 7))),
  gd 64 false (some 70) (ip 70 (pBin .sub (tg 68) (tg 69))),
  gd 64 false (some 71) (ip 71 (pBin .gtr (tg 66) (tg 70))),
  ip 72 (pPick (tg 64) (cv (.bool true)) (tg 71)),
  ip 73 (pMov (tg 72)),
  gd 73 false (some 74) (ip 74 (pFaddr 3 (tg 3))),
  gd 73 false (some 75) (il 75 (tg 74) (mLoad1 (tg 74))),
  gd 73 false (some 76) (ip 76 (pBin .eql (tg 75) (cv (.int .i64 0)))),
  gd 73 false (some 77) (ip 77 (pMov (tg 76))),
  gd 77 true (some 78) (ip 78 (pFaddr 4 (tg 3))),
  gd 77 true (some 79) (il 79 (tg 78) (mLoad1 (tg 78))),
  gd 77 true (some 80) (ip 80 (pLen (tg 79))),
  gd 77 true (some 81) (ip 81 (pBin .gtr (tg 80) (cv (.int .i64 0)))),
  gd 73 false (some 82) (ip 82 (pPick (tg 77) (tg 81) (cv (.bool false)))),
  ip 83 (pPick (tg 73) (cv (.bool true)) (tg 82)),
  ip 84 (pMov (tg 83)),
  gd 84 false (some 85) (ip 85 (pFaddr 3 (tg 3))),
  gd 84 false (some 86) (il 86 (tg 85) (mLoad1 (tg 85))),
  gd 84 false (some 87) (ip 87 (pBin .gtr (tg 86) (cv (.int .i64 0)))),
  gd 84 false (some 88) (ip 88 (pMov (tg 87))),
  gd 88 true (some 89) (ip 89 (pFaddr 4 (tg 3))),
  gd 88 true (some 90) (il 90 (tg 89) (mLoad1 (tg 89))),
  gd 88 true (some 91) (ip 91 (pFaddr 0 (tg 5))),
  gd 88 true (some 92) (il 92 (tg 91) (mLoad1 (tg 91))),
  gd 88 true (some 93) (im 3 93 (mCall 59 [(tg 90), (tg 92)])),
  gd 88 true (some 94) (ip 94 (pUn .not (tg 93))),
  gd 84 false (some 95) (ip 95 (pPick (tg 88) (tg 94) (cv (.bool false)))),
  ip 96 (pPick (tg 84) (cv (.bool true)) (tg 95))]
@[simp] def oc6_12_ap := ops_rule (c := oc6_12) rfl
def oc6_13 : List IS := [ip 6 (pMov (cv (.bool false)))]
@[simp] def oc6_13_ap := ops_rule (c := oc6_13) rfl
def cc6_12 : SC := sSeq (sReg (seqI oc6_13)) sRet
@[simp] def cc6_12_ap := seq_rule (c := cc6_12) rfl
def cc6_13 : SC := sCond (tg 96) cc6_12 sSkip
@[simp] def cc6_13_ap := cond_rule (c := cc6_13) rfl
def cc6_14 : SC := sSeq (sReg (seqI oc6_12)) cc6_13
@[simp] def cc6_14_ap := seq_rule (c := cc6_14) rfl
def cc6_15 : SC := sSeq cc6_11 cc6_14
@[simp] def cc6_15_ap := seq_rule (c := cc6_15) rfl
def cc6_16 : SC := sSeq (sReg (seqI oc6_7)) cc6_15
@[simp] def cc6_16_ap := seq_rule (c := cc6_16) rfl
def oc6_14 : List IS := [ip 97 (pFaddr 2 (tg 3)),
  il 98 (tg 97) (mLoad1 (tg 97)),
  ip 99 (pBin .neq (tg 98) (cv (.int .i64 0))),
  ip 100 (pMov (tg 99)),
  gd 100 false (some 101) (ip 101 (pFaddr 3 (tg 3))),
  gd 100 false (some 102) (il 102 (tg 101) (mLoad1 (tg 101))),
  gd 100 false (some 103) (ip 103 (pBin .neq (tg 102) (cv (.int .i64 0)))),
  ip 104 (pPick (tg 100) (cv (.bool true)) (tg 103)),
  ip 105 (pMov (tg 104)),
  gd 105 false (some 106) (ip 106 (pFaddr 4 (tg 3))),
  gd 105 false (some 107) (il 107 (tg 106) (mLoad1 (tg 106))),
  gd 105 false (some 108) (ip 108 (pLen (tg 107))),
  gd 105 false (some 109) (ip 109 (pBin .gtr (tg 108) (cv (.int .i64 0)))),
  ip 110 (pPick (tg 105) (cv (.bool true)) (tg 109))]
@[simp] def oc6_14_ap := ops_rule (c := oc6_14) rfl
def oc6_15 : List IS := [ip 6 (pMov (cv (.bool false)))]
@[simp] def oc6_15_ap := ops_rule (c := oc6_15) rfl
def cc6_17 : SC := sSeq (sReg (seqI oc6_15)) sRet
@[simp] def cc6_17_ap := seq_rule (c := cc6_17) rfl
def cc6_18 : SC := sCond (tg 110) cc6_17 sSkip
@[simp] def cc6_18_ap := cond_rule (c := cc6_18) rfl
def cc6_19 : SC := sSeq (sReg (seqI oc6_14)) cc6_18
@[simp] def cc6_19_ap := seq_rule (c := cc6_19) rfl
def cc6_20 : SC := sCond (tg 53) cc6_16 cc6_19
@[simp] def cc6_20_ap := cond_rule (c := cc6_20) rfl
def cc6_21 : SC := sSeq (sReg (seqI oc6_6)) cc6_20
@[simp] def cc6_21_ap := seq_rule (c := cc6_21) rfl
def oc6_16 : List IS := [ip 111 (pFaddr 0 (tg 3)),
  il 112 (tg 111) (mLoad1 (tg 111)),
  ip 113 (pBin .neq (tg 112) (cv (.int .i64 2))),
  ip 114 (pMov (tg 113)),
  gd 114 true (some 115) (ip 115 (pFaddr 0 (tg 3))),
  gd 114 true (some 116) (il 116 (tg 115) (mLoad1 (tg 115))),
  gd 114 true (some 117) (ip 117 (pBin .neq (tg 116) (cv (.int .i64 7)))),
  ip 118 (pPick (tg 114) (tg 117) (cv (.bool false))),
  ip 119 (pMov (tg 118)),
  gd 119 true (some 120) (ip 120 (pFaddr 0 (tg 3))),
  gd 119 true (some 121) (il 121 (tg 120) (mLoad1 (tg 120))),
  gd 119 true (some 122) (ip 122 (pBin .neq (tg 121) (cv (.int .i64 9)))),
  ip 123 (pPick (tg 119) (tg 122) (cv (.bool false))),
  ip 8 (pMov (tg 123))]
@[simp] def oc6_16_ap := ops_rule (c := oc6_16) rfl
def oc6_17 : List IS := [ip 124 (pMov (tg 8)),
  ip 125 (pMov (tg 124)),
  gd 125 true (some 126) (ip 126 (pFaddr 5 (tg 3))),
  gd 125 true (some 127) (il 127 (tg 126) (mLoad1 (tg 126))),
  gd 125 true (some 128) (ip 128 (pFaddr 0 (tg 5))),
  gd 125 true (some 129) (il 129 (tg 128) (mLoad1 (tg 128))),
  gd 125 true (some 130) (im 3 130 (mCall 59 [(tg 127), (tg 129)])),
  gd 125 true (some 131) (ip 131 (pUn .not (tg 130))),
  ip 132 (pPick (tg 125) (tg 131) (cv (.bool false))),
  ip 133 (pMov (tg 132)),
  gd 133 false (some 134) (ip 134 (pMov (tg 8))),
  gd 133 false (some 135) (ip 135 (pUn .not (tg 134))),
  gd 133 false (some 136) (ip 136 (pMov (tg 135))),
  gd 136 true (some 137) (ip 137 (pFaddr 5 (tg 3))),
  gd 136 true (some 138) (il 138 (tg 137) (mLoad1 (tg 137))),
  gd 136 true (some 139) (ip 139 (pLen (tg 138))),
  gd 136 true (some 140) (ip 140 (pBin .gtr (tg 139) (cv (.int .i64 0)))),
  gd 133 false (some 141) (ip 141 (pPick (tg 136) (tg 140) (cv (.bool false)))),
  ip 142 (pPick (tg 133) (cv (.bool true)) (tg 141))]
@[simp] def oc6_17_ap := ops_rule (c := oc6_17) rfl
def oc6_18 : List IS := [ip 6 (pMov (cv (.bool false)))]
@[simp] def oc6_18_ap := ops_rule (c := oc6_18) rfl
def cc6_22 : SC := sSeq (sReg (seqI oc6_18)) sRet
@[simp] def cc6_22_ap := seq_rule (c := cc6_22) rfl
def cc6_23 : SC := sCond (tg 142) cc6_22 sSkip
@[simp] def cc6_23_ap := cond_rule (c := cc6_23) rfl
def cc6_24 : SC := sSeq (sReg (seqI oc6_17)) cc6_23
@[simp] def cc6_24_ap := seq_rule (c := cc6_24) rfl
def oc6_19 : List IS := [ip 143 (pFaddr 0 (tg 3)),
  il 144 (tg 143) (mLoad1 (tg 143)),
  ip 145 (pBin .eql (tg 144) (cv (.int .i64 6))),
  ip 146 (pMov (tg 145)),
  gd 146 true (some 147) (ip 147 (pFaddr 6 (tg 3))),
  gd 146 true (some 148) (il 148 (tg 147) (mLoad1 (tg 147))),
  gd 146 true (some 149) (ip 149 (pFaddr 0 (tg 5))),
  gd 146 true (some 150) (il 150 (tg 149) (mLoad1 (tg 149))),
  gd 146 true (some 151) (im 3 151 (mCall 59 [(tg 148), (tg 150)])),
  gd 146 true (some 152) (ip 152 (pUn .not (tg 151))),
  ip 153 (pPick (tg 146) (tg 152) (cv (.bool false))),
  ip 154 (pMov (tg 153)),
  gd 154 false (some 155) (ip 155 (pFaddr 0 (tg 3))),
  gd 154 false (some 156) (il 156 (tg 155) (mLoad1 (tg 155))),
  gd 154 false (some 157) (ip 157 (pBin .neq (tg 156) (cv (.int .i64 6)))),
  gd 154 false (some 158) (ip 158 (pMov (tg 157))),
  gd 158 true (some 159) (ip 159 (pFaddr 6 (tg 3))),
  gd 158 true (some 160) (il 160 (tg 159) (mLoad1 (tg 159))),
  gd 158 true (some 161) (ip 161 (pLen (tg 160))),
  gd 158 true (some 162) (ip 162 (pBin .gtr (tg 161) (cv (.int .i64 0)))),
  gd 154 false (some 163) (ip 163 (pPick (tg 158) (tg 162) (cv (.bool false)))),
  ip 164 (pPick (tg 154) (cv (.bool true)) (tg 163))]
@[simp] def oc6_19_ap := ops_rule (c := oc6_19) rfl
def oc6_20 : List IS := [ip 6 (pMov (cv (.bool false)))]
@[simp] def oc6_20_ap := ops_rule (c := oc6_20) rfl
def cc6_25 : SC := sSeq (sReg (seqI oc6_20)) sRet
@[simp] def cc6_25_ap := seq_rule (c := cc6_25) rfl
def cc6_26 : SC := sCond (tg 164) cc6_25 sSkip
@[simp] def cc6_26_ap := cond_rule (c := cc6_26) rfl
def cc6_27 : SC := sSeq (sReg (seqI oc6_19)) cc6_26
@[simp] def cc6_27_ap := seq_rule (c := cc6_27) rfl
def oc6_21 : List IS := [ip 165 (pFaddr 0 (tg 3)),
  il 166 (tg 165) (mLoad1 (tg 165)),
  ip 167 (pBin .eql (tg 166) (cv (.int .i64 9))),
  ip 168 (pMov (tg 167)),
  gd 168 false (some 169) (ip 169 (pFaddr 0 (tg 3))),
  gd 168 false (some 170) (il 170 (tg 169) (mLoad1 (tg 169))),
  gd 168 false (some 171) (ip 171 (pBin .eql (tg 170) (cv (.int .i64 10)))),
  ip 172 (pPick (tg 168) (cv (.bool true)) (tg 171))]
@[simp] def oc6_21_ap := ops_rule (c := oc6_21) rfl
def oc6_22 : List IS := [ip 173 (pFaddr 8 (tg 3)),
  il 174 (tg 173) (mLoad1 (tg 173)),
  ip 175 (pBin .geq (tg 174) (cv (.int .i64 0))),
  ip 176 (pMov (tg 175)),
  gd 176 true (some 177) (ip 177 (pFaddr 8 (tg 3))),
  gd 176 true (some 178) (il 178 (tg 177) (mLoad1 (tg 177))),
  gd 176 true (some 179) (ip 179 (pFaddr 1 (tg 5))),
  gd 176 true (some 180) (il 180 (tg 179) (mLoad1 (tg 179))),
  gd 176 true (some 181) (ip 181 (pLen (tg 180))),
  gd 176 true (some 182) (ip 182 (pBin .leq (tg 178) (tg 181))),
  ip 183 (pPick (tg 176) (tg 182) (cv (.bool false))),
  ip 6 (pMov (tg 183))]
@[simp] def oc6_22_ap := ops_rule (c := oc6_22) rfl
def cc6_28 : SC := sSeq (sReg (seqI oc6_22)) sRet
@[simp] def cc6_28_ap := seq_rule (c := cc6_28) rfl
def cc6_29 : SC := sCond (tg 172) cc6_28 sSkip
@[simp] def cc6_29_ap := cond_rule (c := cc6_29) rfl
def cc6_30 : SC := sSeq (sReg (seqI oc6_21)) cc6_29
@[simp] def cc6_30_ap := seq_rule (c := cc6_30) rfl
def oc6_23 : List IS := [ip 184 (pFaddr 8 (tg 3)),
  il 185 (tg 184) (mLoad1 (tg 184)),
  ip 186 (pBin .eql (tg 185) (cv (.int .i64 0))),
  ip 6 (pMov (tg 186))]
@[simp] def oc6_23_ap := ops_rule (c := oc6_23) rfl
def cc6_31 : SC := sSeq (sReg (seqI oc6_23)) sRet
@[simp] def cc6_31_ap := seq_rule (c := cc6_31) rfl
def cc6_32 : SC := sSeq cc6_30 cc6_31
@[simp] def cc6_32_ap := seq_rule (c := cc6_32) rfl
def cc6_33 : SC := sSeq cc6_27 cc6_32
@[simp] def cc6_33_ap := seq_rule (c := cc6_33) rfl
def cc6_34 : SC := sSeq cc6_24 cc6_33
@[simp] def cc6_34_ap := seq_rule (c := cc6_34) rfl
def cc6_35 : SC := sSeq (sReg (seqI oc6_16)) cc6_34
@[simp] def cc6_35_ap := seq_rule (c := cc6_35) rfl
def cc6_36 : SC := sSeq cc6_21 cc6_35
@[simp] def cc6_36_ap := seq_rule (c := cc6_36) rfl
def cc6_37 : SC := sSeq cc6_6 cc6_36
@[simp] def cc6_37_ap := seq_rule (c := cc6_37) rfl
def cc6_38 : SC := sSeq cc6_3 cc6_37
@[simp] def cc6_38_ap := seq_rule (c := cc6_38) rfl
def cc6_39 : SC := sSeq (sReg (seqI oc6_1)) cc6_38
@[simp] def cc6_39_ap := seq_rule (c := cc6_39) rfl
def dc6 : DFn := ⟨cc6_39, 187, [.t 6]⟩
theorem dc6_ok : fnOf Tryz.prog 37 = some dc6 := by kernel_rfl
def oc9_1 : List IS := [ip 2 (pMov (cv (.int .i64 0))),
  ip 3 (pMov (cv (.int .i64 0)))]
@[simp] def oc9_1_ap := ops_rule (c := oc9_1) rfl
def oc9_2 : List IS := [ip 4 (pMov (tg 0))]
@[simp] def oc9_2_ap := ops_rule (c := oc9_2) rfl
def oc9_3 : List IS := [ip 6 (pBin .eql (tg 4) (cv (.int .i64 2))),
  ip 5 (pMov (tg 6))]
@[simp] def oc9_3_ap := ops_rule (c := oc9_3) rfl
def oc9_4 : List IS := [ip 2 (pMov (cv (.int .i64 2))),
  ip 3 (pMov (cv (.int .i64 1)))]
@[simp] def oc9_4_ap := ops_rule (c := oc9_4) rfl
def cc9_1 : SC := sSeq (sReg (seqI oc9_4)) sRet
@[simp] def cc9_1_ap := seq_rule (c := cc9_1) rfl
def oc9_5 : List IS := [ip 8 (pBin .eql (tg 4) (cv (.int .i64 3))),
  ip 7 (pMov (tg 8))]
@[simp] def oc9_5_ap := ops_rule (c := oc9_5) rfl
def oc9_6 : List IS := [ip 2 (pMov (cv (.int .i64 1))),
  ip 3 (pMov (cv (.int .i64 3)))]
@[simp] def oc9_6_ap := ops_rule (c := oc9_6) rfl
def cc9_2 : SC := sSeq (sReg (seqI oc9_6)) sRet
@[simp] def cc9_2_ap := seq_rule (c := cc9_2) rfl
def oc9_7 : List IS := [ip 10 (pBin .eql (tg 4) (cv (.int .i64 4))),
  ip 9 (pMov (tg 10))]
@[simp] def oc9_7_ap := ops_rule (c := oc9_7) rfl
def oc9_8 : List IS := [ip 2 (pMov (cv (.int .i64 2))),
  ip 3 (pMov (cv (.int .i64 3)))]
@[simp] def oc9_8_ap := ops_rule (c := oc9_8) rfl
def cc9_3 : SC := sSeq (sReg (seqI oc9_8)) sRet
@[simp] def cc9_3_ap := seq_rule (c := cc9_3) rfl
def oc9_9 : List IS := [ip 12 (pBin .eql (tg 4) (cv (.int .i64 5))),
  ip 11 (pMov (tg 12))]
@[simp] def oc9_9_ap := ops_rule (c := oc9_9) rfl
def oc9_10 : List IS := [ip 2 (pMov (cv (.int .i64 5))),
  ip 3 (pMov (cv (.int .i64 5)))]
@[simp] def oc9_10_ap := ops_rule (c := oc9_10) rfl
def cc9_4 : SC := sSeq (sReg (seqI oc9_10)) sRet
@[simp] def cc9_4_ap := seq_rule (c := cc9_4) rfl
def cc9_5 : SC := sCond (tg 11) cc9_4 sSkip
@[simp] def cc9_5_ap := cond_rule (c := cc9_5) rfl
def cc9_6 : SC := sSeq (sReg (seqI oc9_9)) cc9_5
@[simp] def cc9_6_ap := seq_rule (c := cc9_6) rfl
def cc9_7 : SC := sCond (tg 9) cc9_3 cc9_6
@[simp] def cc9_7_ap := cond_rule (c := cc9_7) rfl
def cc9_8 : SC := sSeq (sReg (seqI oc9_7)) cc9_7
@[simp] def cc9_8_ap := seq_rule (c := cc9_8) rfl
def cc9_9 : SC := sCond (tg 7) cc9_2 cc9_8
@[simp] def cc9_9_ap := cond_rule (c := cc9_9) rfl
def cc9_10 : SC := sSeq (sReg (seqI oc9_5)) cc9_9
@[simp] def cc9_10_ap := seq_rule (c := cc9_10) rfl
def cc9_11 : SC := sCond (tg 5) cc9_1 cc9_10
@[simp] def cc9_11_ap := cond_rule (c := cc9_11) rfl
def cc9_12 : SC := sSeq (sReg (seqI oc9_3)) cc9_11
@[simp] def cc9_12_ap := seq_rule (c := cc9_12) rfl
def cc9_13 : SC := sBlock 0 cc9_12
@[simp] def cc9_13_ap := block_rule (c := cc9_13) rfl
def cc9_14 : SC := sSeq (sReg (seqI oc9_2)) cc9_13
@[simp] def cc9_14_ap := seq_rule (c := cc9_14) rfl
def oc9_11 : List IS := [ip 2 (pMov (cv (.int .i64 1))),
  ip 3 (pMov (cv (.int .i64 1)))]
@[simp] def oc9_11_ap := ops_rule (c := oc9_11) rfl
def cc9_15 : SC := sSeq (sReg (seqI oc9_11)) sRet
@[simp] def cc9_15_ap := seq_rule (c := cc9_15) rfl
def cc9_16 : SC := sSeq cc9_14 cc9_15
@[simp] def cc9_16_ap := seq_rule (c := cc9_16) rfl
def cc9_17 : SC := sSeq (sReg (seqI oc9_1)) cc9_16
@[simp] def cc9_17_ap := seq_rule (c := cc9_17) rfl
def dc9 : DFn := ⟨cc9_17, 13, [.t 2, .t 3]⟩
theorem dc9_ok : fnOf Tryz.prog 41 = some dc9 := by kernel_rfl
def od0_1 : List IS := [im 1 2 (mBox (tg 0)),
  ip 4 (pMov (cv (.int .i64 0)))]
@[simp] def od0_1_ap := ops_rule (c := od0_1) rfl
def od0_2 : List IS := [ip 5 (pFaddr 3 (tg 2)),
  il 6 (tg 5) (mLoad1 (tg 5)),
  ip 7 (pBin .eql (tg 6) (cv (.int .i64 0)))]
@[simp] def od0_2_ap := ops_rule (c := od0_2) rfl
def od0_3 : List IS := [ip 8 (pFaddr 2 (tg 2)),
  il 9 (tg 8) (mLoad1 (tg 8)),
  ip 4 (pMov (tg 9))]
@[simp] def od0_3_ap := ops_rule (c := od0_3) rfl
def cd0_1 : SC := sSeq (sReg (seqI od0_3)) sRet
@[simp] def cd0_1_ap := seq_rule (c := cd0_1) rfl
def cd0_2 : SC := sCond (tg 7) cd0_1 sSkip
@[simp] def cd0_2_ap := cond_rule (c := cd0_2) rfl
def cd0_3 : SC := sSeq (sReg (seqI od0_2)) cd0_2
@[simp] def cd0_3_ap := seq_rule (c := cd0_3) rfl
def od0_4 : List DA := [⟨CI.pure (pFaddr 2 (tg 2)), (some 10), none, 0, []⟩,
  ⟨CI.load (tg 10) (mLoad1 (tg 10)), (some 11), none, 1, []⟩,
  ⟨CI.pure (pFaddr 4 (tg 2)), (some 12), none, 2, []⟩,
  ⟨CI.load (tg 12) (mLoad1 (tg 12)), (some 13), none, 3, []⟩,
  ⟨CI.pure (pMov (tg 1)), (some 14), none, 4, []⟩,
  ⟨CI.mem 3 (mCall 43 [(tg 13), (tg 14)]), (some 15), none, 5, [1]⟩,
  ⟨CI.pure (pFaddr 3 (tg 2)), (some 16), none, 6, []⟩,
  ⟨CI.load (tg 16) (mLoad1 (tg 16)), (some 17), none, 7, [5]⟩,
  ⟨CI.pure (pConvI .u64 (tg 17)), (some 18), none, 8, []⟩,
  ⟨CI.pure (pBin .rem (tg 15) (tg 18)), (some 19), none, 9, []⟩,
  ⟨CI.pure (pConvI .i64 (tg 19)), (some 20), none, 10, []⟩,
  ⟨CI.pure (pBin .add (tg 11) (tg 20)), (some 21), none, 11, []⟩,
  ⟨CI.pure (pMov (tg 21)), (some 4), none, 12, []⟩]
@[simp] def od0_4_ap := das_rule (c := od0_4) rfl
def cd0_4 : SC := sSeq (sAny od0_4) sRet
@[simp] def cd0_4_ap := seq_rule (c := cd0_4) rfl
def cd0_5 : SC := sSeq cd0_3 cd0_4
@[simp] def cd0_5_ap := seq_rule (c := cd0_5) rfl
def cd0_6 : SC := sSeq (sReg (seqI od0_1)) cd0_5
@[simp] def cd0_6_ap := seq_rule (c := cd0_6) rfl
def dd0 : DFn := ⟨cd0_6, 22, [.t 4]⟩
theorem dd0_ok : fnOf Tryz.prog 42 = some dd0 := by kernel_rfl
def od2_1 : List IS := [im 1 3 (mBox (tg 0)),
  im 1 6 (mAlloc [(.int .i64 0), (.slice none 0 0), (.int .i64 0), (.slice none 0 0)])]
@[simp] def od2_1_ap := ops_rule (c := od2_1) rfl
def od2_2 : List IS := [im 1 8 (mBslice 1 0 (rep 0 [(.int .u64 0)]) []),
  ip 9 (pFaddr 3 (tg 3)),
  il 10 (tg 9) (mLoad1 (tg 9)),
  im 3 11 (mAppend 1 8 (tg 8) (tg 10)),
  ip 7 (pMov (tg 11))]
@[simp] def od2_2_ap := ops_rule (c := od2_2) rfl
def od2_3 : List IS := [ip 12 (pMov (tg 7)),
  ip 13 (pMov (tg 1)),
  ip 14 (pMov (tg 2)),
  ip 15 (pIaddrS 1 (tg 12) (tg 13)),
  im0 3 (mStore 1 (tg 15) (tg 14))]
@[simp] def od2_3_ap := ops_rule (c := od2_3) rfl
def od2_4 : List IS := [ip 16 (pFaddr 0 (tg 3)),
  il 17 (tg 16) (mLoadN 2 (tg 16)),
  ip 18 (pFaddr 2 (tg 3)),
  il 19 (tg 18) (mLoad1 (tg 18)),
  ip 20 (pBin .add (tg 19) (cv (.int .i64 1))),
  ip 21 (pMov (tg 7)),
  ip 22 (pBuild [(.int .i64 0), (.slice none 0 0), (.int .i64 0), (.slice none 0 0)] [(0, 2, (tg 17)), (2, 1, (tg 20)), (3, 1, (tg 21))]),
  im0 3 (mStore 4 (tg 6) (tg 22))]
@[simp] def od2_4_ap := ops_rule (c := od2_4) rfl
def cd2_1 : SC := sSeq (sReg (seqI od2_4)) sRet
@[simp] def cd2_1_ap := seq_rule (c := cd2_1) rfl
def cd2_2 : SC := sSeq (sReg (seqI od2_3)) cd2_1
@[simp] def cd2_2_ap := seq_rule (c := cd2_2) rfl
def cd2_3 : SC := sSeq (sReg (seqI od2_2)) cd2_2
@[simp] def cd2_3_ap := seq_rule (c := cd2_3) rfl
def cd2_4 : SC := sSeq (sReg (seqI od2_1)) cd2_3
@[simp] def cd2_4_ap := seq_rule (c := cd2_4) rfl
def dd2 : DFn := ⟨cd2_4, 23, [.cell 6 4]⟩
theorem dd2_ok : fnOf Tryz.prog 44 = some dd2 := by kernel_rfl
def oe2_1 : List IS := [ip 4 (pMov (cv (.bool false)))]
@[simp] def oe2_1_ap := ops_rule (c := oe2_1) rfl
def oe2_2 : List IS := [ip 5 (pMov (tg 0))]
@[simp] def oe2_2_ap := ops_rule (c := oe2_2) rfl
def oe2_3 : List IS := [ip 7 (pBin .eql (tg 5) (cv (.int .i64 2))),
  ip 6 (pMov (tg 7))]
@[simp] def oe2_3_ap := ops_rule (c := oe2_3) rfl
def oe2_4 : List IS := [ip 8 (pMov (tg 1)),
  ip 9 (pBin .eql (tg 8) (cv (.int .i64 1))),
  ip 10 (pMov (tg 9)),
  gd 10 false (some 11) (ip 11 (pMov (tg 1))),
  gd 10 false (some 12) (ip 12 (pBin .eql (tg 11) (cv (.int .i64 2)))),
  ip 13 (pPick (tg 10) (cv (.bool true)) (tg 12)),
  ip 14 (pMov (tg 13)),
  gd 14 false (some 15) (ip 15 (pMov (tg 1))),
  gd 14 false (some 16) (ip 16 (pBin .eql (tg 15) (cv (.int .i64 5)))),
  ip 17 (pPick (tg 14) (cv (.bool true)) (tg 16)),
  ip 4 (pMov (tg 17))]
@[simp] def oe2_4_ap := ops_rule (c := oe2_4) rfl
def ce2_1 : SC := sSeq (sReg (seqI oe2_4)) sRet
@[simp] def ce2_1_ap := seq_rule (c := ce2_1) rfl
def oe2_5 : List IS := [ip 19 (pBin .eql (tg 5) (cv (.int .i64 3))),
  ip 18 (pMov (tg 19))]
@[simp] def oe2_5_ap := ops_rule (c := oe2_5) rfl
def oe2_6 : List IS := [ip 20 (pMov (tg 1)),
  ip 21 (pBin .eql (tg 20) (cv (.int .i64 1))),
  ip 22 (pMov (tg 21)),
  gd 22 false (some 23) (ip 23 (pMov (tg 1))),
  gd 22 false (some 24) (ip 24 (pBin .eql (tg 23) (cv (.int .i64 3)))),
  ip 25 (pPick (tg 22) (cv (.bool true)) (tg 24)),
  ip 26 (pMov (tg 25)),
  gd 26 false (some 27) (ip 27 (pMov (tg 1))),
  gd 26 false (some 28) (ip 28 (pBin .eql (tg 27) (cv (.int .i64 5)))),
  ip 29 (pPick (tg 26) (cv (.bool true)) (tg 28)),
  ip 4 (pMov (tg 29))]
@[simp] def oe2_6_ap := ops_rule (c := oe2_6) rfl
def ce2_2 : SC := sSeq (sReg (seqI oe2_6)) sRet
@[simp] def ce2_2_ap := seq_rule (c := ce2_2) rfl
def oe2_7 : List IS := [ip 31 (pBin .eql (tg 5) (cv (.int .i64 4))),
  ip 30 (pMov (tg 31))]
@[simp] def oe2_7_ap := ops_rule (c := oe2_7) rfl
def oe2_8 : List IS := [ip 32 (pBin .eql (tg 5) (cv (.int .i64 5))),
  ip 30 (pMov (tg 32))]
@[simp] def oe2_8_ap := ops_rule (c := oe2_8) rfl
def oe2_9 : List IS := [ip 33 (pBin .eql (tg 5) (cv (.int .i64 6))),
  ip 30 (pMov (tg 33))]
@[simp] def oe2_9_ap := ops_rule (c := oe2_9) rfl
def ce2_3 : SC := sCond (tg 30) sSkip (sReg (seqI oe2_9))
@[simp] def ce2_3_ap := cond_rule (c := ce2_3) rfl
def ce2_4 : SC := sSeq (sReg (seqI oe2_8)) ce2_3
@[simp] def ce2_4_ap := seq_rule (c := ce2_4) rfl
def ce2_5 : SC := sCond (tg 30) sSkip ce2_4
@[simp] def ce2_5_ap := cond_rule (c := ce2_5) rfl
def ce2_6 : SC := sSeq (sReg (seqI oe2_7)) ce2_5
@[simp] def ce2_6_ap := seq_rule (c := ce2_6) rfl
def oe2_10 : List IS := [ip 34 (pMov (tg 1)),
  ip 35 (pBin .geq (tg 34) (cv (.int .i64 1))),
  ip 36 (pMov (tg 35)),
  gd 36 true (some 37) (ip 37 (pMov (tg 1))),
  gd 36 true (some 38) (ip 38 (pBin .leq (tg 37) (cv (.int .i64 5)))),
  ip 39 (pPick (tg 36) (tg 38) (cv (.bool false))),
  ip 4 (pMov (tg 39))]
@[simp] def oe2_10_ap := ops_rule (c := oe2_10) rfl
def ce2_7 : SC := sSeq (sReg (seqI oe2_10)) sRet
@[simp] def ce2_7_ap := seq_rule (c := ce2_7) rfl
def oe2_11 : List IS := [ip 41 (pBin .eql (tg 5) (cv (.int .i64 7))),
  ip 40 (pMov (tg 41))]
@[simp] def oe2_11_ap := ops_rule (c := oe2_11) rfl
def oe2_12 : List IS := [ip 42 (pMov (tg 1)),
  ip 43 (pBin .geq (tg 42) (cv (.int .i64 2))),
  ip 44 (pMov (tg 43)),
  gd 44 true (some 45) (ip 45 (pMov (tg 1))),
  gd 44 true (some 46) (ip 46 (pBin .leq (tg 45) (cv (.int .i64 5)))),
  ip 47 (pPick (tg 44) (tg 46) (cv (.bool false))),
  ip 4 (pMov (tg 47))]
@[simp] def oe2_12_ap := ops_rule (c := oe2_12) rfl
def ce2_8 : SC := sSeq (sReg (seqI oe2_12)) sRet
@[simp] def ce2_8_ap := seq_rule (c := ce2_8) rfl
def ce2_9 : SC := sCond (tg 40) ce2_8 sSkip
@[simp] def ce2_9_ap := cond_rule (c := ce2_9) rfl
def ce2_10 : SC := sSeq (sReg (seqI oe2_11)) ce2_9
@[simp] def ce2_10_ap := seq_rule (c := ce2_10) rfl
def ce2_11 : SC := sCond (tg 30) ce2_7 ce2_10
@[simp] def ce2_11_ap := cond_rule (c := ce2_11) rfl
def ce2_12 : SC := sSeq ce2_6 ce2_11
@[simp] def ce2_12_ap := seq_rule (c := ce2_12) rfl
def ce2_13 : SC := sCond (tg 18) ce2_2 ce2_12
@[simp] def ce2_13_ap := cond_rule (c := ce2_13) rfl
def ce2_14 : SC := sSeq (sReg (seqI oe2_5)) ce2_13
@[simp] def ce2_14_ap := seq_rule (c := ce2_14) rfl
def ce2_15 : SC := sCond (tg 6) ce2_1 ce2_14
@[simp] def ce2_15_ap := cond_rule (c := ce2_15) rfl
def ce2_16 : SC := sSeq (sReg (seqI oe2_3)) ce2_15
@[simp] def ce2_16_ap := seq_rule (c := ce2_16) rfl
def ce2_17 : SC := sBlock 0 ce2_16
@[simp] def ce2_17_ap := block_rule (c := ce2_17) rfl
def ce2_18 : SC := sSeq (sReg (seqI oe2_2)) ce2_17
@[simp] def ce2_18_ap := seq_rule (c := ce2_18) rfl
def oe2_13 : List IS := [ip 48 (pMov (tg 1)),
  ip 49 (pBin .eql (tg 48) (cv (.int .i64 0))),
  ip 4 (pMov (tg 49))]
@[simp] def oe2_13_ap := ops_rule (c := oe2_13) rfl
def ce2_19 : SC := sSeq (sReg (seqI oe2_13)) sRet
@[simp] def ce2_19_ap := seq_rule (c := ce2_19) rfl
def ce2_20 : SC := sSeq ce2_18 ce2_19
@[simp] def ce2_20_ap := seq_rule (c := ce2_20) rfl
def ce2_21 : SC := sSeq (sReg (seqI oe2_1)) ce2_20
@[simp] def ce2_21_ap := seq_rule (c := ce2_21) rfl
def de2 : DFn := ⟨ce2_21, 50, [.t 4]⟩
theorem de2_ok : fnOf Tryz.prog 55 = some de2 := by kernel_rfl
def oe3_1 : List IS := [ip 2 (pMov (cv (.bool false)))]
@[simp] def oe3_1_ap := ops_rule (c := oe3_1) rfl
def oe3_2 : List IS := [ip 3 (pMov (tg 0)),
  ip 4 (pBin .eql (tg 3) (cv (.int .i64 1))),
  ip 5 (pMov (tg 4)),
  gd 5 false (some 6) (ip 6 (pMov (tg 0))),
  gd 5 false (some 7) (ip 7 (pBin .eql (tg 6) (cv (.int .i64 2)))),
  ip 8 (pPick (tg 5) (cv (.bool true)) (tg 7)),
  ip 9 (pMov (tg 8)),
  gd 9 false (some 10) (ip 10 (pMov (tg 0))),
  gd 9 false (some 11) (ip 11 (pBin .eql (tg 10) (cv (.int .i64 4)))),
  ip 12 (pPick (tg 9) (cv (.bool true)) (tg 11)),
  ip 13 (pMov (tg 12)),
  gd 13 false (some 14) (ip 14 (pMov (tg 0))),
  gd 13 false (some 15) (ip 15 (pBin .eql (tg 14) (cv (.int .i64 5)))),
  ip 16 (pPick (tg 13) (cv (.bool true)) (tg 15)),
  ip 17 (pMov (tg 16)),
  gd 17 false (some 18) (ip 18 (pMov (tg 0))),
  gd 17 false (some 19) (ip 19 (pBin .eql (tg 18) (cv (.int .i64 6)))),
  ip 20 (pPick (tg 17) (cv (.bool true)) (tg 19)),
  ip 2 (pMov (tg 20))]
@[simp] def oe3_2_ap := ops_rule (c := oe3_2) rfl
def ce3_1 : SC := sSeq (sReg (seqI oe3_2)) sRet
@[simp] def ce3_1_ap := seq_rule (c := ce3_1) rfl
def ce3_2 : SC := sSeq (sReg (seqI oe3_1)) ce3_1
@[simp] def ce3_2_ap := seq_rule (c := ce3_2) rfl
def de3 : DFn := ⟨ce3_2, 21, [.t 2]⟩
theorem de3_ok : fnOf Tryz.prog 56 = some de3 := by kernel_rfl
def oe4_1 : List IS := [ip 2 (pMov (cv (.bool false)))]
@[simp] def oe4_1_ap := ops_rule (c := oe4_1) rfl
def oe4_2 : List IS := [ip 3 (pMov (tg 0)),
  ip 4 (pBin .eql (tg 3) (cv (.int .i64 2))),
  ip 5 (pMov (tg 4)),
  gd 5 false (some 6) (ip 6 (pMov (tg 0))),
  gd 5 false (some 7) (ip 7 (pBin .eql (tg 6) (cv (.int .i64 3)))),
  ip 8 (pPick (tg 5) (cv (.bool true)) (tg 7)),
  ip 9 (pMov (tg 8)),
  gd 9 false (some 10) (ip 10 (pMov (tg 0))),
  gd 9 false (some 11) (ip 11 (pBin .eql (tg 10) (cv (.int .i64 4)))),
  ip 12 (pPick (tg 9) (cv (.bool true)) (tg 11)),
  ip 13 (pMov (tg 12)),
  gd 13 false (some 14) (ip 14 (pMov (tg 0))),
  gd 13 false (some 15) (ip 15 (pBin .eql (tg 14) (cv (.int .i64 5)))),
  ip 16 (pPick (tg 13) (cv (.bool true)) (tg 15)),
  ip 17 (pMov (tg 16)),
  gd 17 false (some 18) (ip 18 (pMov (tg 0))),
  gd 17 false (some 19) (ip 19 (pBin .eql (tg 18) (cv (.int .i64 6)))),
  ip 20 (pPick (tg 17) (cv (.bool true)) (tg 19)),
  ip 2 (pMov (tg 20))]
@[simp] def oe4_2_ap := ops_rule (c := oe4_2) rfl
def ce4_1 : SC := sSeq (sReg (seqI oe4_2)) sRet
@[simp] def ce4_1_ap := seq_rule (c := ce4_1) rfl
def ce4_2 : SC := sSeq (sReg (seqI oe4_1)) ce4_1
@[simp] def ce4_2_ap := seq_rule (c := ce4_2) rfl
def de4 : DFn := ⟨ce4_2, 21, [.t 2]⟩
theorem de4_ok : fnOf Tryz.prog 57 = some de4 := by kernel_rfl
def oe5_1 : List IS := [ip 2 (pMov (cv (.bool false)))]
@[simp] def oe5_1_ap := ops_rule (c := oe5_1) rfl
def oe5_2 : List IS := [ip 3 (pMov (cv (.int .i64 1)))]
@[simp] def oe5_2_ap := ops_rule (c := oe5_2) rfl
def oe5_3 : List IS := [ip 4 (pMov (tg 3)),
  ip 5 (pBin .leq (tg 4) (cv (.int .i64 1024)))]
@[simp] def oe5_3_ap := ops_rule (c := oe5_3) rfl
def ce5_1 : SC := sCond (tg 5) sSkip (sExit 0)
@[simp] def ce5_1_ap := cond_rule (c := ce5_1) rfl
def ce5_2 : SC := sSeq (sReg (seqI oe5_3)) ce5_1
@[simp] def ce5_2_ap := seq_rule (c := ce5_2) rfl
def oe5_4 : List IS := [ip 8 (pMov (tg 3)),
  ip 9 (pMov (tg 0)),
  ip 10 (pBin .eql (tg 8) (tg 9))]
@[simp] def oe5_4_ap := ops_rule (c := oe5_4) rfl
def oe5_5 : List IS := [ip 2 (pMov (cv (.bool true)))]
@[simp] def oe5_5_ap := ops_rule (c := oe5_5) rfl
def ce5_3 : SC := sSeq (sReg (seqI oe5_5)) sRet
@[simp] def ce5_3_ap := seq_rule (c := ce5_3) rfl
def ce5_4 : SC := sCond (tg 10) ce5_3 sSkip
@[simp] def ce5_4_ap := cond_rule (c := ce5_4) rfl
def ce5_5 : SC := sSeq (sReg (seqI oe5_4)) ce5_4
@[simp] def ce5_5_ap := seq_rule (c := ce5_5) rfl
def ce5_6 : SC := sBlock 1 ce5_5
@[simp] def ce5_6_ap := block_rule (c := ce5_6) rfl
def oe5_6 : List IS := [ip 6 (pMov (tg 3)),
  ip 7 (pBin .mul (tg 6) (cv (.int .i64 2))),
  ip 3 (pMov (tg 7))]
@[simp] def oe5_6_ap := ops_rule (c := oe5_6) rfl
def ce5_7 : SC := sSeq ce5_6 (sReg (seqI oe5_6))
@[simp] def ce5_7_ap := seq_rule (c := ce5_7) rfl
def ce5_8 : SC := sSeq ce5_2 ce5_7
@[simp] def ce5_8_ap := seq_rule (c := ce5_8) rfl
def ce5_9 : SC := sLoop ce5_8
def ce5_10 : SC := sBlock 0 ce5_9
@[simp] def ce5_10_ap := block_rule (c := ce5_10) rfl
def ce5_11 : SC := sSeq (sReg (seqI oe5_2)) ce5_10
@[simp] def ce5_11_ap := seq_rule (c := ce5_11) rfl
def oe5_7 : List IS := [ip 2 (pMov (cv (.bool false)))]
@[simp] def oe5_7_ap := ops_rule (c := oe5_7) rfl
def ce5_12 : SC := sSeq (sReg (seqI oe5_7)) sRet
@[simp] def ce5_12_ap := seq_rule (c := ce5_12) rfl
def ce5_13 : SC := sSeq ce5_11 ce5_12
@[simp] def ce5_13_ap := seq_rule (c := ce5_13) rfl
def ce5_14 : SC := sSeq (sReg (seqI oe5_1)) ce5_13
@[simp] def ce5_14_ap := seq_rule (c := ce5_14) rfl
def de5 : DFn := ⟨ce5_14, 11, [.t 2]⟩
theorem de5_ok : fnOf Tryz.prog 58 = some de5 := by kernel_rfl
end
end Go.Sx
