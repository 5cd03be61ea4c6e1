/- Compiled code. -/
import Derived.Test.YtbbpaaofmcoobaaGreatGb
import Derived.Test.YtbbpaaofmcoobaaGreatGa
import Derived.Test.YtbbpaaofmcoobaaGreatProg
import Derived.KernelRfl
set_option linter.unusedVariables false
set_option linter.unusedSimpArgs false
set_option linter.defProp false
/- Compiled code: printed by a program. -/
namespace Go.Sx
open Go.Dx Go.Proofs
noncomputable section
def oa0_1 : List IS := [im 1 1 (mBox (tg 0)),
  ip 2 (pMov (cv (.bool false)))]
@[simp] def oa0_1_ap := ops_rule (c := oa0_1) rfl
def oa0_2 : List IS := [im 3 9 (mCall 11 []),
  ip 10 (pUn .not (tg 9))]
@[simp] def oa0_2_ap := ops_rule (c := oa0_2) rfl
def oa0_3 : List IS := [ip 2 (pMov (cv (.bool false)))]
def ca0_1 : SC := sSeq (sReg (seqI oa0_3)) sRet
def ca0_2 : SC := sCond (tg 10) ca0_1 sSkip
@[simp] def ca0_2_ap := cond_rule (c := ca0_2) rfl
def ca0_3 : SC := sSeq (sReg (seqI oa0_2)) ca0_2
@[simp] def ca0_3_ap := seq_rule (c := ca0_3) rfl
def oa0_4 : List IS := [il 12 (tg 1) (mLoadN 2 (tg 1)),
  im 3 13 (mCall 16 [(tg 12)]),
  ip 11 (pMov (tg 13)),
  ip 14 (pExtract (tg 11) 0),
  ip 15 (pExtract (tg 11) 1),
  ip 16 (pExtract (tg 11) 2),
  im 1 3 (mAlloc [(.int .i64 0), (.slice none 0 0)]),
  im0 3 (mStore 2 (tg 3) (tg 14)),
  ip 4 (pMov (tg 15)),
  ip 5 (pMov (tg 16))]
@[simp] def oa0_4_ap := ops_rule (c := oa0_4) rfl
def oa0_5 : List IS := [ip 17 (pMov (tg 5)),
  ip 18 (pBin .neq (tg 17) (cv (.int .i64 0)))]
@[simp] def oa0_5_ap := ops_rule (c := oa0_5) rfl
def oa0_6 : List IS := [ip 19 (pMov (tg 5)),
  ip 20 (pBin .eql (tg 19) (cv (.int .i64 1))),
  ip 21 (pMov (tg 20)),
  gd 21 true (some 22) (il 22 (tg 1) (mLoadN 2 (tg 1))),
  gd 21 true (some 23) (im 3 23 (mCall 19 [(tg 22)])),
  gd 21 true (some 24) (ip 24 (pUn .not (tg 23))),
  ip 25 (pPick (tg 21) (tg 24) (cv (.bool false))),
  ip 26 (pMov (tg 25)),
  gd 26 true (some 27) (ip 27 (pMov (tg 4))),
  gd 26 true (some 28) (ip 28 (pBin .eql (tg 27) (cv (.int .i64 0)))),
  ip 29 (pPick (tg 26) (tg 28) (cv (.bool false))),
  ip 2 (pMov (tg 29))]
@[simp] def oa0_6_ap := ops_rule (c := oa0_6) rfl
def ca0_4 : SC := sSeq (sReg (seqI oa0_6)) sRet
@[simp] def ca0_4_ap := seq_rule (c := ca0_4) rfl
def ca0_5 : SC := sCond (tg 18) ca0_4 sSkip
@[simp] def ca0_5_ap := cond_rule (c := ca0_5) rfl
def ca0_6 : SC := sSeq (sReg (seqI oa0_5)) ca0_5
@[simp] def ca0_6_ap := seq_rule (c := ca0_6) rfl
def oa0_7 : List IS := [il 30 (tg 3) (mLoadN 2 (tg 3)),
  im 3 31 (mCall 19 [(tg 30)]),
  ip 32 (pUn .not (tg 31)),
  ip 33 (pMov (tg 32)),
  gd 33 false (some 34) (ip 34 (pFaddr 0 (tg 3))),
  gd 33 false (some 35) (il 35 (tg 34) (mLoad1 (tg 34))),
  gd 33 false (some 36) (ip 36 (pFaddr 0 (tg 1))),
  gd 33 false (some 37) (il 37 (tg 36) (mLoad1 (tg 36))),
  gd 33 false (some 38) (ip 38 (pBin .neq (tg 35) (tg 37))),
  ip 39 (pPick (tg 33) (cv (.bool true)) (tg 38)),
  ip 40 (pMov (tg 39)),
  gd 40 false (some 41) (ip 41 (pFaddr 1 (tg 3))),
  gd 40 false (some 42) (il 42 (tg 41) (mLoad1 (tg 41))),
  gd 40 false (some 43) (ip 43 (pLen (tg 42))),
  gd 40 false (some 44) (ip 44 (pFaddr 1 (tg 1))),
  gd 40 false (some 45) (il 45 (tg 44) (mLoad1 (tg 44))),
  gd 40 false (some 46) (ip 46 (pLen (tg 45))),
  gd 40 false (some 47) (ip 47 (pBin .neq (tg 43) (tg 46))),
  ip 48 (pPick (tg 40) (cv (.bool true)) (tg 47)),
  ip 49 (pMov (tg 48)),
  gd 49 false (some 50) (ip 50 (pMov (tg 4))),
  gd 49 false (some 51) (ip 51 (pBin .lss (tg 50) (cv (.int .i64 0)))),
  ip 52 (pPick (tg 49) (cv (.bool true)) (tg 51))]
@[simp] def oa0_7_ap := ops_rule (c := oa0_7) rfl
def oa0_8 : List IS := [ip 2 (pMov (cv (.bool false)))]
def ca0_7 : SC := sSeq (sReg (seqI oa0_8)) sRet
def ca0_8 : SC := sCond (tg 52) ca0_7 sSkip
@[simp] def ca0_8_ap := cond_rule (c := ca0_8) rfl
def ca0_9 : SC := sSeq (sReg (seqI oa0_7)) ca0_8
@[simp] def ca0_9_ap := seq_rule (c := ca0_9) rfl
def oa0_9 : List IS := [ip 6 (pMov (cv (.int .i64 0)))]
@[simp] def oa0_9_ap := ops_rule (c := oa0_9) rfl
def oa0_10 : List IS := [ip 53 (pMov (tg 6)),
  ip 54 (pFaddr 1 (tg 1)),
  il 55 (tg 54) (mLoad1 (tg 54)),
  ip 56 (pLen (tg 55)),
  ip 57 (pBin .lss (tg 53) (tg 56))]
@[simp] def oa0_10_ap := ops_rule (c := oa0_10) rfl
def ca0_10 : SC := sCond (tg 57) sSkip (sExit 0)
@[simp] def ca0_10_ap := cond_rule (c := ca0_10) rfl
def ca0_11 : SC := sSeq (sReg (seqI oa0_10)) ca0_10
@[simp] def ca0_11_ap := seq_rule (c := ca0_11) rfl
def oa0_11 : List DA := [⟨CI.pure (pFaddr 1 (tg 3)), (some 60), none, 0, []⟩,
  ⟨CI.load (tg 60) (mLoad1 (tg 60)), (some 61), none, 1, []⟩,
  ⟨CI.pure (pMov (tg 6)), (some 62), none, 2, []⟩,
  ⟨CI.pure (pIaddrS 2 (tg 61) (tg 62)), (some 63), none, 3, []⟩,
  ⟨CI.pure (pFaddr 0 (tg 63)), (some 64), none, 4, []⟩,
  ⟨CI.load (tg 64) (mLoad1 (tg 64)), (some 65), none, 5, []⟩,
  ⟨CI.pure (pFaddr 1 (tg 1)), (some 66), none, 6, []⟩,
  ⟨CI.load (tg 66) (mLoad1 (tg 66)), (some 67), none, 7, []⟩,
  ⟨CI.pure (pMov (tg 6)), (some 68), none, 8, []⟩,
  ⟨CI.pure (pIaddrS 2 (tg 67) (tg 68)), (some 69), none, 9, []⟩,
  ⟨CI.pure (pFaddr 0 (tg 69)), (some 70), none, 10, []⟩,
  ⟨CI.load (tg 70) (mLoad1 (tg 70)), (some 71), none, 11, []⟩,
  ⟨CI.pure (pBin .neq (tg 65) (tg 71)), (some 72), none, 12, []⟩,
  ⟨CI.pure (pMov (tg 72)), (some 73), none, 13, []⟩,
  ⟨CI.pure (pFaddr 1 (tg 3)), (some 74), (some (73, false)), 14, []⟩,
  ⟨CI.load (tg 74) (mLoad1 (tg 74)), (some 75), (some (73, false)), 15, []⟩,
  ⟨CI.pure (pMov (tg 6)), (some 76), (some (73, false)), 16, []⟩,
  ⟨CI.pure (pIaddrS 2 (tg 75) (tg 76)), (some 77), (some (73, false)), 17, []⟩,
  ⟨CI.pure (pFaddr 1 (tg 77)), (some 78), (some (73, false)), 18, []⟩,
  ⟨CI.load (tg 78) (mLoad1 (tg 78)), (some 79), (some (73, false)), 19, []⟩,
  ⟨CI.pure (pLen (tg 79)), (some 80), (some (73, false)), 20, []⟩,
  ⟨CI.pure (pFaddr 1 (tg 1)), (some 81), (some (73, false)), 21, []⟩,
  ⟨CI.load (tg 81) (mLoad1 (tg 81)), (some 82), (some (73, false)), 22, []⟩,
  ⟨CI.pure (pMov (tg 6)), (some 83), (some (73, false)), 23, []⟩,
  ⟨CI.pure (pIaddrS 2 (tg 82) (tg 83)), (some 84), (some (73, false)), 24, []⟩,
  ⟨CI.pure (pFaddr 1 (tg 84)), (some 85), (some (73, false)), 25, []⟩,
  ⟨CI.load (tg 85) (mLoad1 (tg 85)), (some 86), (some (73, false)), 26, []⟩,
  ⟨CI.pure (pLen (tg 86)), (some 87), (some (73, false)), 27, []⟩,
  ⟨CI.pure (pBin .gtr (tg 80) (tg 87)), (some 88), (some (73, false)), 28, []⟩,
  ⟨CI.pure (pPick (tg 73) (cv (.bool true)) (tg 88)), (some 89), none, 29, []⟩]
@[simp] def oa0_11_ap := das_rule (c := oa0_11) rfl
def oa0_12 : List IS := [ip 2 (pMov (cv (.bool false)))]
def ca0_12 : SC := sSeq (sReg (seqI oa0_12)) sRet
def ca0_13 : SC := sCond (tg 89) ca0_12 sSkip
@[simp] def ca0_13_ap := cond_rule (c := ca0_13) rfl
def ca0_14 : SC := sSeq (sAny oa0_11) ca0_13
@[simp] def ca0_14_ap := seq_rule (c := ca0_14) rfl
def ca0_15 : SC := sBlock 1 ca0_14
@[simp] def ca0_15_ap := block_rule (c := ca0_15) rfl
def oa0_13 : List IS := [ip 58 (pMov (tg 6)),
  ip 59 (pBin .add (tg 58) (cv (.int .i64 1))),
  ip 6 (pMov (tg 59))]
@[simp] def oa0_13_ap := ops_rule (c := oa0_13) rfl
def ca0_16 : SC := sSeq ca0_15 (sReg (seqI oa0_13))
@[simp] def ca0_16_ap := seq_rule (c := ca0_16) rfl
def ca0_17 : SC := sSeq ca0_11 ca0_16
@[simp] def ca0_17_ap := seq_rule (c := ca0_17) rfl
def ca0_18 : SC := sLoop ca0_17
def ca0_19 : SC := sBlock 0 ca0_18
@[simp] def ca0_19_ap := block_rule (c := ca0_19) rfl
def ca0_20 : SC := sSeq (sReg (seqI oa0_9)) ca0_19
@[simp] def ca0_20_ap := seq_rule (c := ca0_20) rfl
def oa0_14 : List IS := [il 91 (tg 3) (mLoadN 2 (tg 3)),
  im 3 92 (mCall 16 [(tg 91)]),
  ip 90 (pMov (tg 92)),
  ip 93 (pExtract (tg 90) 0),
  ip 94 (pExtract (tg 90) 1),
  ip 95 (pExtract (tg 90) 2),
  im 1 7 (mAlloc [(.int .i64 0), (.slice none 0 0)]),
  im0 3 (mStore 2 (tg 7) (tg 93)),
  ip 8 (pMov (tg 94)),
  ip 5 (pMov (tg 95))]
@[simp] def oa0_14_ap := ops_rule (c := oa0_14) rfl
def oa0_15 : List IS := [ip 96 (pMov (tg 5)),
  ip 97 (pBin .eql (tg 96) (cv (.int .i64 0))),
  ip 98 (pMov (tg 97)),
  gd 98 true (some 99) (ip 99 (pMov (tg 8))),
  gd 98 true (some 100) (ip 100 (pBin .eql (tg 99) (cv (.int .i64 0)))),
  ip 101 (pPick (tg 98) (tg 100) (cv (.bool false))),
  ip 102 (pMov (tg 101)),
  gd 102 true (some 103) (il 103 (tg 3) (mLoadN 2 (tg 3))),
  gd 102 true (some 104) (il 104 (tg 7) (mLoadN 2 (tg 7))),
  gd 102 true (some 105) (im 3 105 (mCall 17 [(tg 103), (tg 104)])),
  ip 106 (pPick (tg 102) (tg 105) (cv (.bool false))),
  ip 2 (pMov (tg 106))]
@[simp] def oa0_15_ap := ops_rule (c := oa0_15) rfl
def ca0_21 : SC := sSeq (sReg (seqI oa0_15)) sRet
@[simp] def ca0_21_ap := seq_rule (c := ca0_21) rfl
def ca0_22 : SC := sSeq (sReg (seqI oa0_14)) ca0_21
@[simp] def ca0_22_ap := seq_rule (c := ca0_22) rfl
def ca0_23 : SC := sSeq ca0_20 ca0_22
@[simp] def ca0_23_ap := seq_rule (c := ca0_23) rfl
def ca0_24 : SC := sSeq ca0_9 ca0_23
@[simp] def ca0_24_ap := seq_rule (c := ca0_24) rfl
def ca0_25 : SC := sSeq ca0_6 ca0_24
@[simp] def ca0_25_ap := seq_rule (c := ca0_25) rfl
def ca0_26 : SC := sSeq (sReg (seqI oa0_4)) ca0_25
@[simp] def ca0_26_ap := seq_rule (c := ca0_26) rfl
def ca0_27 : SC := sSeq ca0_3 ca0_26
@[simp] def ca0_27_ap := seq_rule (c := ca0_27) rfl
def ca0_28 : SC := sSeq (sReg (seqI oa0_1)) ca0_27
@[simp] def ca0_28_ap := seq_rule (c := ca0_28) rfl
def da0 : DFn := ⟨ca0_28, 107, [.t 2]⟩
theorem da0_ok : fnOf Tryz.prog 5 = some da0 := by kernel_rfl
def oa2_1 : List IS := [im 1 1 (mBox (tg 0)),
  im 1 2 (mAlloc [(.int .i64 0), (.slice none 0 0)]),
  ip 3 (pMov (cv (.int .i64 0)))]
@[simp] def oa2_1_ap := ops_rule (c := oa2_1) rfl
def oa2_2 : List IS := [il 4 (tg 1) (mLoadN 2 (tg 1)),
  im 3 5 (mCall 33 [(tg 4)]),
  ip 6 (pUn .not (tg 5))]
@[simp] def oa2_2_ap := ops_rule (c := oa2_2) rfl
def oa2_3 : List IS := [ip 7 (pBuild [(.int .i64 0), (.slice none 0 0)] []),
  im0 3 (mStore 2 (tg 2) (tg 7)),
  ip 3 (pMov (cv (.int .i64 1)))]
@[simp] def oa2_3_ap := ops_rule (c := oa2_3) rfl
def ca2_1 : SC := sSeq (sReg (seqI oa2_3)) sRet
@[simp] def ca2_1_ap := seq_rule (c := ca2_1) rfl
def ca2_2 : SC := sCond (tg 6) ca2_1 sSkip
@[simp] def ca2_2_ap := cond_rule (c := ca2_2) rfl
def ca2_3 : SC := sSeq (sReg (seqI oa2_2)) ca2_2
@[simp] def ca2_3_ap := seq_rule (c := ca2_3) rfl
def oa2_4 : List IS := [il 8 (tg 1) (mLoadN 2 (tg 1)),
  im 3 9 (mCall 34 [(tg 8)]),
  im0 3 (mStore 2 (tg 2) (tg 9)),
  ip 3 (pMov (cv (.int .i64 0)))]
@[simp] def oa2_4_ap := ops_rule (c := oa2_4) rfl
def ca2_4 : SC := sSeq (sReg (seqI oa2_4)) sRet
@[simp] def ca2_4_ap := seq_rule (c := ca2_4) rfl
def ca2_5 : SC := sSeq ca2_3 ca2_4
@[simp] def ca2_5_ap := seq_rule (c := ca2_5) rfl
def ca2_6 : SC := sSeq (sReg (seqI oa2_1)) ca2_5
@[simp] def ca2_6_ap := seq_rule (c := ca2_6) rfl
def da2 : DFn := ⟨ca2_6, 10, [.cell 2 2, .t 3]⟩
theorem da2_ok : fnOf Tryz.prog 15 = some da2 := by kernel_rfl
def oa3_1 : List IS := [im 1 1 (mBox (tg 0)),
  im 1 2 (mAlloc [(.int .i64 0), (.slice none 0 0)]),
  ip 3 (pMov (cv (.int .i64 0))),
  ip 4 (pMov (cv (.int .i64 0)))]
@[simp] def oa3_1_ap := ops_rule (c := oa3_1) rfl
def oa3_2 : List IS := [il 9 (tg 1) (mLoadN 2 (tg 1)),
  im 3 10 (mCall 15 [(tg 9)]),
  ip 8 (pMov (tg 10)),
  ip 11 (pExtract (tg 8) 0),
  ip 12 (pExtract (tg 8) 1),
  im 1 5 (mAlloc [(.int .i64 0), (.slice none 0 0)]),
  im0 3 (mStore 2 (tg 5) (tg 11)),
  ip 6 (pMov (tg 12))]
@[simp] def oa3_2_ap := ops_rule (c := oa3_2) rfl
def oa3_3 : List IS := [ip 13 (pMov (tg 6)),
  ip 14 (pBin .neq (tg 13) (cv (.int .i64 0)))]
@[simp] def oa3_3_ap := ops_rule (c := oa3_3) rfl
def oa3_4 : List IS := [il 15 (tg 5) (mLoadN 2 (tg 5)),
  ip 16 (pMov (tg 6)),
  im0 3 (mStore 2 (tg 2) (tg 15)),
  ip 3 (pMov (cv (.int .i64 0))),
  ip 4 (pMov (tg 16))]
@[simp] def oa3_4_ap := ops_rule (c := oa3_4) rfl
def ca3_1 : SC := sSeq (sReg (seqI oa3_4)) sRet
@[simp] def ca3_1_ap := seq_rule (c := ca3_1) rfl
def ca3_2 : SC := sCond (tg 14) ca3_1 sSkip
@[simp] def ca3_2_ap := cond_rule (c := ca3_2) rfl
def ca3_3 : SC := sSeq (sReg (seqI oa3_3)) ca3_2
@[simp] def ca3_3_ap := seq_rule (c := ca3_3) rfl
def oa3_5 : List IS := [ip 7 (pMov (cv (.int .i64 0)))]
@[simp] def oa3_5_ap := ops_rule (c := oa3_5) rfl
def oa3_6 : List IS := [il 17 (tg 1) (mLoadN 2 (tg 1)),
  il 18 (tg 5) (mLoadN 2 (tg 5)),
  im 3 19 (mCall 35 [(tg 17), (tg 18)]),
  ip 20 (pUn .not (tg 19))]
@[simp] def oa3_6_ap := ops_rule (c := oa3_6) rfl
def ca3_4 : SC := sCond (tg 20) sSkip (sExit 0)
@[simp] def ca3_4_ap := cond_rule (c := ca3_4) rfl
def ca3_5 : SC := sSeq (sReg (seqI oa3_6)) ca3_4
@[simp] def ca3_5_ap := seq_rule (c := ca3_5) rfl
def oa3_7 : List DA := [⟨CI.load (tg 5) (mLoadN 2 (tg 5)), (some 23), none, 0, []⟩,
  ⟨CI.load (tg 5) (mLoadN 2 (tg 5)), (some 24), none, 1, []⟩,
  ⟨CI.mem 3 (mCall 34 [(tg 24)]), (some 25), none, 2, [0]⟩,
  ⟨CI.mem 3 (mStore 2 (tg 1) (tg 23)), none, none, 3, []⟩,
  ⟨CI.mem 3 (mStore 2 (tg 5) (tg 25)), none, none, 4, []⟩]
@[simp] def oa3_7_ap := das_rule (c := oa3_7) rfl
def ca3_6 : SC := sBlock 1 (sAny oa3_7)
@[simp] def ca3_6_ap := block_rule (c := ca3_6) rfl
def oa3_8 : List IS := [ip 21 (pMov (tg 7)),
  ip 22 (pBin .add (tg 21) (cv (.int .i64 1))),
  ip 7 (pMov (tg 22))]
@[simp] def oa3_8_ap := ops_rule (c := oa3_8) rfl
def ca3_7 : SC := sSeq ca3_6 (sReg (seqI oa3_8))
@[simp] def ca3_7_ap := seq_rule (c := ca3_7) rfl
def ca3_8 : SC := sSeq ca3_5 ca3_7
@[simp] def ca3_8_ap := seq_rule (c := ca3_8) rfl
def ca3_9 : SC := sLoop ca3_8
def ca3_10 : SC := sBlock 0 ca3_9
@[simp] def ca3_10_ap := block_rule (c := ca3_10) rfl
def oa3_9 : List IS := [il 26 (tg 5) (mLoadN 2 (tg 5)),
  ip 27 (pMov (tg 7)),
  im0 3 (mStore 2 (tg 2) (tg 26)),
  ip 3 (pMov (tg 27)),
  ip 4 (pMov (cv (.int .i64 0)))]
@[simp] def oa3_9_ap := ops_rule (c := oa3_9) rfl
def ca3_11 : SC := sSeq (sReg (seqI oa3_9)) sRet
@[simp] def ca3_11_ap := seq_rule (c := ca3_11) rfl
def ca3_12 : SC := sSeq ca3_10 ca3_11
@[simp] def ca3_12_ap := seq_rule (c := ca3_12) rfl
def ca3_13 : SC := sSeq (sReg (seqI oa3_5)) ca3_12
@[simp] def ca3_13_ap := seq_rule (c := ca3_13) rfl
def ca3_14 : SC := sSeq ca3_3 ca3_13
@[simp] def ca3_14_ap := seq_rule (c := ca3_14) rfl
def ca3_15 : SC := sSeq (sReg (seqI oa3_2)) ca3_14
@[simp] def ca3_15_ap := seq_rule (c := ca3_15) rfl
def ca3_16 : SC := sSeq (sReg (seqI oa3_1)) ca3_15
@[simp] def ca3_16_ap := seq_rule (c := ca3_16) rfl
def da3 : DFn := ⟨ca3_16, 28, [.cell 2 2, .t 3, .t 4]⟩
theorem da3_ok : fnOf Tryz.prog 16 = some da3 := by kernel_rfl
def oa4_1 : List IS := [im 1 2 (mBox (tg 0)),
  im 1 3 (mBox (tg 1)),
  ip 4 (pMov (cv (.bool false)))]
@[simp] def oa4_1_ap := ops_rule (c := oa4_1) rfl
def oa4_2 : List IS := [ip 11 (pFaddr 0 (tg 2)),
  il 12 (tg 11) (mLoad1 (tg 11)),
  ip 13 (pFaddr 0 (tg 3)),
  il 14 (tg 13) (mLoad1 (tg 13)),
  ip 15 (pBin .neq (tg 12) (tg 14)),
  ip 16 (pMov (tg 15)),
  gd 16 false (some 17) (ip 17 (pFaddr 1 (tg 2))),
  gd 16 false (some 18) (il 18 (tg 17) (mLoad1 (tg 17))),
  gd 16 false (some 19) (ip 19 (pLen (tg 18))),
  gd 16 false (some 20) (ip 20 (pFaddr 1 (tg 3))),
  gd 16 false (some 21) (il 21 (tg 20) (mLoad1 (tg 20))),
  gd 16 false (some 22) (ip 22 (pLen (tg 21))),
  gd 16 false (some 23) (ip 23 (pBin .neq (tg 19) (tg 22))),
  ip 24 (pPick (tg 16) (cv (.bool true)) (tg 23))]
@[simp] def oa4_2_ap := ops_rule (c := oa4_2) rfl
def oa4_3 : List IS := [ip 4 (pMov (cv (.bool false)))]
def ca4_1 : SC := sSeq (sReg (seqI oa4_3)) sRet
def ca4_2 : SC := sCond (tg 24) ca4_1 sSkip
@[simp] def ca4_2_ap := cond_rule (c := ca4_2) rfl
def ca4_3 : SC := sSeq (sReg (seqI oa4_2)) ca4_2
@[simp] def ca4_3_ap := seq_rule (c := ca4_3) rfl
def oa4_4 : List IS := [ip 5 (pMov (cv (.int .i64 0)))]
@[simp] def oa4_4_ap := ops_rule (c := oa4_4) rfl
def oa4_5 : List IS := [ip 25 (pMov (tg 5)),
  ip 26 (pFaddr 1 (tg 2)),
  il 27 (tg 26) (mLoad1 (tg 26)),
  ip 28 (pLen (tg 27)),
  ip 29 (pBin .lss (tg 25) (tg 28))]
@[simp] def oa4_5_ap := ops_rule (c := oa4_5) rfl
def ca4_4 : SC := sCond (tg 29) sSkip (sExit 0)
@[simp] def ca4_4_ap := cond_rule (c := ca4_4) rfl
def ca4_5 : SC := sSeq (sReg (seqI oa4_5)) ca4_4
@[simp] def ca4_5_ap := seq_rule (c := ca4_5) rfl
def oa4_6 : List IS := [ip 32 (pFaddr 1 (tg 2)),
  il 33 (tg 32) (mLoad1 (tg 32)),
  ip 34 (pMov (tg 5)),
  ip 35 (pIaddrS 2 (tg 33) (tg 34)),
  il 36 (tg 35) (mLoadN 2 (tg 35)),
  im 1 6 (mAlloc [(.int .i64 0), (.slice none 0 0)]),
  im0 3 (mStore 2 (tg 6) (tg 36))]
@[simp] def oa4_6_ap := ops_rule (c := oa4_6) rfl
def oa4_7 : List IS := [ip 37 (pFaddr 1 (tg 3)),
  il 38 (tg 37) (mLoad1 (tg 37)),
  ip 39 (pMov (tg 5)),
  ip 40 (pIaddrS 2 (tg 38) (tg 39)),
  il 41 (tg 40) (mLoadN 2 (tg 40)),
  im 1 7 (mAlloc [(.int .i64 0), (.slice none 0 0)]),
  im0 3 (mStore 2 (tg 7) (tg 41))]
@[simp] def oa4_7_ap := ops_rule (c := oa4_7) rfl
def oa4_8 : List IS := [ip 42 (pFaddr 0 (tg 6)),
  il 43 (tg 42) (mLoad1 (tg 42)),
  ip 44 (pFaddr 0 (tg 7)),
  il 45 (tg 44) (mLoad1 (tg 44)),
  ip 46 (pBin .neq (tg 43) (tg 45)),
  ip 47 (pMov (tg 46)),
  gd 47 false (some 48) (ip 48 (pFaddr 1 (tg 6))),
  gd 47 false (some 49) (il 49 (tg 48) (mLoad1 (tg 48))),
  gd 47 false (some 50) (ip 50 (pLen (tg 49))),
  gd 47 false (some 51) (ip 51 (pFaddr 1 (tg 7))),
  gd 47 false (some 52) (il 52 (tg 51) (mLoad1 (tg 51))),
  gd 47 false (some 53) (ip 53 (pLen (tg 52))),
  gd 47 false (some 54) (ip 54 (pBin .neq (tg 50) (tg 53))),
  ip 55 (pPick (tg 47) (cv (.bool true)) (tg 54))]
@[simp] def oa4_8_ap := ops_rule (c := oa4_8) rfl
def oa4_9 : List IS := [ip 4 (pMov (cv (.bool false)))]
def ca4_6 : SC := sSeq (sReg (seqI oa4_9)) sRet
def ca4_7 : SC := sCond (tg 55) ca4_6 sSkip
@[simp] def ca4_7_ap := cond_rule (c := ca4_7) rfl
def ca4_8 : SC := sSeq (sReg (seqI oa4_8)) ca4_7
@[simp] def ca4_8_ap := seq_rule (c := ca4_8) rfl
def oa4_10 : List IS := [ip 8 (pMov (cv (.int .i64 0)))]
@[simp] def oa4_10_ap := ops_rule (c := oa4_10) rfl
def oa4_11 : List IS := [ip 56 (pMov (tg 8)),
  ip 57 (pFaddr 1 (tg 6)),
  il 58 (tg 57) (mLoad1 (tg 57)),
  ip 59 (pLen (tg 58)),
  ip 60 (pBin .lss (tg 56) (tg 59))]
@[simp] def oa4_11_ap := ops_rule (c := oa4_11) rfl
def ca4_9 : SC := sCond (tg 60) sSkip (sExit 2)
@[simp] def ca4_9_ap := cond_rule (c := ca4_9) rfl
def ca4_10 : SC := sSeq (sReg (seqI oa4_11)) ca4_9
@[simp] def ca4_10_ap := seq_rule (c := ca4_10) rfl
def oa4_12 : List IS := [ip 63 (pFaddr 1 (tg 6)),
  il 64 (tg 63) (mLoad1 (tg 63)),
  ip 65 (pMov (tg 8)),
  ip 66 (pIaddrS 11 (tg 64) (tg 65)),
  il 67 (tg 66) (mLoadN 11 (tg 66)),
  im 1 9 (mAlloc [(.int .i64 0), (.int .i64 0), (.int .i64 0), (.int .i64 0), (.slice none 0 0), (.slice none 0 0), (.slice none 0 0), (.int .i64 0), (.int .i64 0), (.int .i64 0), (.int .i64 0)]),
  im0 3 (mStore 11 (tg 9) (tg 67))]
@[simp] def oa4_12_ap := ops_rule (c := oa4_12) rfl
def oa4_13 : List IS := [ip 68 (pFaddr 1 (tg 7)),
  il 69 (tg 68) (mLoad1 (tg 68)),
  ip 70 (pMov (tg 8)),
  ip 71 (pIaddrS 11 (tg 69) (tg 70)),
  il 72 (tg 71) (mLoadN 11 (tg 71)),
  im 1 10 (mAlloc [(.int .i64 0), (.int .i64 0), (.int .i64 0), (.int .i64 0), (.slice none 0 0), (.slice none 0 0), (.slice none 0 0), (.int .i64 0), (.int .i64 0), (.int .i64 0), (.int .i64 0)]),
  im0 3 (mStore 11 (tg 10) (tg 72))]
@[simp] def oa4_13_ap := ops_rule (c := oa4_13) rfl
def oa4_14 : List IS := [ip 73 (pFaddr 0 (tg 9)),
  il 74 (tg 73) (mLoad1 (tg 73)),
  ip 75 (pFaddr 0 (tg 10)),
  il 76 (tg 75) (mLoad1 (tg 75)),
  ip 77 (pBin .neq (tg 74) (tg 76)),
  ip 78 (pMov (tg 77)),
  gd 78 false (some 79) (ip 79 (pFaddr 1 (tg 9))),
  gd 78 false (some 80) (il 80 (tg 79) (mLoad1 (tg 79))),
  gd 78 false (some 81) (ip 81 (pFaddr 1 (tg 10))),
  gd 78 false (some 82) (il 82 (tg 81) (mLoad1 (tg 81))),
  gd 78 false (some 83) (ip 83 (pBin .neq (tg 80) (tg 82))),
  ip 84 (pPick (tg 78) (cv (.bool true)) (tg 83)),
  ip 85 (pMov (tg 84)),
  gd 85 false (some 86) (ip 86 (pFaddr 2 (tg 9))),
  gd 85 false (some 87) (il 87 (tg 86) (mLoad1 (tg 86))),
  gd 85 false (some 88) (ip 88 (pFaddr 2 (tg 10))),
  gd 85 false (some 89) (il 89 (tg 88) (mLoad1 (tg 88))),
  gd 85 false (some 90) (ip 90 (pBin .neq (tg 87) (tg 89))),
  ip 91 (pPick (tg 85) (cv (.bool true)) (tg 90)),
  ip 92 (pMov (tg 91)),
  gd 92 false (some 93) (ip 93 (pFaddr 3 (tg 9))),
  gd 92 false (some 94) (il 94 (tg 93) (mLoad1 (tg 93))),
  gd 92 false (some 95) (ip 95 (pFaddr 3 (tg 10))),
  gd 92 false (some 96) (il 96 (tg 95) (mLoad1 (tg 95))),
  gd 92 false (some 97) (ip 97 (pBin .neq (tg 94) (tg 96))),
  ip 98 (pPick (tg 92) (cv (.bool true)) (tg 97)),
  ip 99 (pMov (tg 98)),
  gd 99 false (some 100) (ip 100 (pFaddr 7 (tg 9))),
  gd 99 false (some 101) (il 101 (tg 100) (mLoad1 (tg 100))),
  gd 99 false (some 102) (ip 102 (pFaddr 7 (tg 10))),
  gd 99 false (some 103) (il 103 (tg 102) (mLoad1 (tg 102))),
  gd 99 false (some 104) (ip 104 (pBin .neq (tg 101) (tg 103))),
  ip 105 (pPick (tg 99) (cv (.bool true)) (tg 104)),
  ip 106 (pMov (tg 105)),
  gd 106 false (some 107) (ip 107 (pFaddr 8 (tg 9))),
  gd 106 false (some 108) (il 108 (tg 107) (mLoad1 (tg 107))),
  gd 106 false (some 109) (ip 109 (pFaddr 8 (tg 10))),
  gd 106 false (some 110) (il 110 (tg 109) (mLoad1 (tg 109))),
  gd 106 false (some 111) (ip 111 (pBin .neq (tg 108) (tg 110))),
  ip 112 (pPick (tg 106) (cv (.bool true)) (tg 111)),
  ip 113 (pMov (tg 112)),
  gd 113 false (some 114) (ip 114 (pFaddr 9 (tg 9))),
  gd 113 false (some 115) (il 115 (tg 114) (mLoad1 (tg 114))),
  gd 113 false (some 116) (ip 116 (pFaddr 9 (tg 10))),
  gd 113 false (some 117) (il 117 (tg 116) (mLoad1 (tg 116))),
  gd 113 false (some 118) (ip 118 (pBin .neq (tg 115) (tg 117))),
  ip 119 (pPick (tg 113) (cv (.bool true)) (tg 118)),
  ip 120 (pMov (tg 119)),
  gd 120 false (some 121) (ip 121 (pFaddr 10 (tg 9))),
  gd 120 false (some 122) (il 122 (tg 121) (mLoad1 (tg 121))),
  gd 120 false (some 123) (ip 123 (pFaddr 10 (tg 10))),
  gd 120 false (some 124) (il 124 (tg 123) (mLoad1 (tg 123))),
  gd 120 false (some 125) (ip 125 (pBin .neq (tg 122) (tg 124))),
  ip 126 (pPick (tg 120) (cv (.bool true)) (tg 125))]
@[simp] def oa4_14_ap := ops_rule (c := oa4_14) rfl
def oa4_15 : List IS := [ip 4 (pMov (cv (.bool false)))]
def ca4_11 : SC := sSeq (sReg (seqI oa4_15)) sRet
def ca4_12 : SC := sCond (tg 126) ca4_11 sSkip
@[simp] def ca4_12_ap := cond_rule (c := ca4_12) rfl
def ca4_13 : SC := sSeq (sReg (seqI oa4_14)) ca4_12
@[simp] def ca4_13_ap := seq_rule (c := ca4_13) rfl
def oa4_16 : List IS := [ip 127 (pFaddr 4 (tg 9)),
  il 128 (tg 127) (mLoad1 (tg 127)),
  ip 129 (pFaddr 4 (tg 10)),
  il 130 (tg 129) (mLoad1 (tg 129)),
  im 3 131 (mCall 36 [(tg 128), (tg 130)]),
  ip 132 (pUn .not (tg 131)),
  ip 133 (pMov (tg 132)),
  gd 133 false (some 134) (ip 134 (pFaddr 5 (tg 9))),
  gd 133 false (some 135) (il 135 (tg 134) (mLoad1 (tg 134))),
  gd 133 false (some 136) (ip 136 (pFaddr 5 (tg 10))),
  gd 133 false (some 137) (il 137 (tg 136) (mLoad1 (tg 136))),
  gd 133 false (some 138) (im 3 138 (mCall 36 [(tg 135), (tg 137)])),
  gd 133 false (some 139) (ip 139 (pUn .not (tg 138))),
  ip 140 (pPick (tg 133) (cv (.bool true)) (tg 139)),
  ip 141 (pMov (tg 140)),
  gd 141 false (some 142) (ip 142 (pFaddr 6 (tg 9))),
  gd 141 false (some 143) (il 143 (tg 142) (mLoad1 (tg 142))),
  gd 141 false (some 144) (ip 144 (pFaddr 6 (tg 10))),
  gd 141 false (some 145) (il 145 (tg 144) (mLoad1 (tg 144))),
  gd 141 false (some 146) (im 3 146 (mCall 36 [(tg 143), (tg 145)])),
  gd 141 false (some 147) (ip 147 (pUn .not (tg 146))),
  ip 148 (pPick (tg 141) (cv (.bool true)) (tg 147))]
@[simp] def oa4_16_ap := ops_rule (c := oa4_16) rfl
def oa4_17 : List IS := [ip 4 (pMov (cv (.bool false)))]
def ca4_14 : SC := sSeq (sReg (seqI oa4_17)) sRet
def ca4_15 : SC := sCond (tg 148) ca4_14 sSkip
@[simp] def ca4_15_ap := cond_rule (c := ca4_15) rfl
def ca4_16 : SC := sSeq (sReg (seqI oa4_16)) ca4_15
@[simp] def ca4_16_ap := seq_rule (c := ca4_16) rfl
def ca4_17 : SC := sSeq ca4_13 ca4_16
@[simp] def ca4_17_ap := seq_rule (c := ca4_17) rfl
def ca4_18 : SC := sSeq (sReg (seqI oa4_13)) ca4_17
@[simp] def ca4_18_ap := seq_rule (c := ca4_18) rfl
def ca4_19 : SC := sSeq (sReg (seqI oa4_12)) ca4_18
@[simp] def ca4_19_ap := seq_rule (c := ca4_19) rfl
def ca4_20 : SC := sBlock 3 ca4_19
@[simp] def ca4_20_ap := block_rule (c := ca4_20) rfl
def oa4_18 : List IS := [ip 61 (pMov (tg 8)),
  ip 62 (pBin .add (tg 61) (cv (.int .i64 1))),
  ip 8 (pMov (tg 62))]
@[simp] def oa4_18_ap := ops_rule (c := oa4_18) rfl
def ca4_21 : SC := sSeq ca4_20 (sReg (seqI oa4_18))
@[simp] def ca4_21_ap := seq_rule (c := ca4_21) rfl
def ca4_22 : SC := sSeq ca4_10 ca4_21
@[simp] def ca4_22_ap := seq_rule (c := ca4_22) rfl
def ca4_23 : SC := sLoop ca4_22
def ca4_24 : SC := sBlock 2 ca4_23
@[simp] def ca4_24_ap := block_rule (c := ca4_24) rfl
def ca4_25 : SC := sSeq (sReg (seqI oa4_10)) ca4_24
@[simp] def ca4_25_ap := seq_rule (c := ca4_25) rfl
def ca4_26 : SC := sSeq ca4_8 ca4_25
@[simp] def ca4_26_ap := seq_rule (c := ca4_26) rfl
def ca4_27 : SC := sSeq (sReg (seqI oa4_7)) ca4_26
@[simp] def ca4_27_ap := seq_rule (c := ca4_27) rfl
def ca4_28 : SC := sSeq (sReg (seqI oa4_6)) ca4_27
@[simp] def ca4_28_ap := seq_rule (c := ca4_28) rfl
def ca4_29 : SC := sBlock 1 ca4_28
@[simp] def ca4_29_ap := block_rule (c := ca4_29) rfl
def oa4_19 : List IS := [ip 30 (pMov (tg 5)),
  ip 31 (pBin .add (tg 30) (cv (.int .i64 1))),
  ip 5 (pMov (tg 31))]
@[simp] def oa4_19_ap := ops_rule (c := oa4_19) rfl
def ca4_30 : SC := sSeq ca4_29 (sReg (seqI oa4_19))
@[simp] def ca4_30_ap := seq_rule (c := ca4_30) rfl
def ca4_31 : SC := sSeq ca4_5 ca4_30
@[simp] def ca4_31_ap := seq_rule (c := ca4_31) rfl
def ca4_32 : SC := sLoop ca4_31
def ca4_33 : SC := sBlock 0 ca4_32
@[simp] def ca4_33_ap := block_rule (c := ca4_33) rfl
def ca4_34 : SC := sSeq (sReg (seqI oa4_4)) ca4_33
@[simp] def ca4_34_ap := seq_rule (c := ca4_34) rfl
def oa4_20 : List IS := [ip 4 (pMov (cv (.bool true)))]
@[simp] def oa4_20_ap := ops_rule (c := oa4_20) rfl
def ca4_35 : SC := sSeq (sReg (seqI oa4_20)) sRet
@[simp] def ca4_35_ap := seq_rule (c := ca4_35) rfl
def ca4_36 : SC := sSeq ca4_34 ca4_35
@[simp] def ca4_36_ap := seq_rule (c := ca4_36) rfl
def ca4_37 : SC := sSeq ca4_3 ca4_36
@[simp] def ca4_37_ap := seq_rule (c := ca4_37) rfl
def ca4_38 : SC := sSeq (sReg (seqI oa4_1)) ca4_37
@[simp] def ca4_38_ap := seq_rule (c := ca4_38) rfl
def da4 : DFn := ⟨ca4_38, 149, [.t 4]⟩
theorem da4_ok : fnOf Tryz.prog 17 = some da4 := by kernel_rfl
def oa5_1 : List IS := [im 1 1 (mBox (tg 0)),
  ip 2 (pMov (cv (.bool false)))]
@[simp] def oa5_1_ap := ops_rule (c := oa5_1) rfl
def oa5_2 : List IS := [ip 6 (pFaddr 0 (tg 1)),
  il 7 (tg 6) (mLoad1 (tg 6)),
  ip 8 (pBin .lss (tg 7) (cv (.int .i64 0))),
  ip 9 (pMov (tg 8)),
  gd 9 false (some 10) (ip 10 (pFaddr 0 (tg 1))),
  gd 9 false (some 11) (il 11 (tg 10) (mLoad1 (tg 10))),
  gd 9 false (some 12) (ip 12 (pBin .gtr (tg 11) (cv (.int .i64 4096)))),
  ip 13 (pPick (tg 9) (cv (.bool true)) (tg 12)),
  ip 14 (pMov (tg 13)),
  gd 14 false (some 15) (ip 15 (pFaddr 1 (tg 1))),
  gd 14 false (some 16) (il 16 (tg 15) (mLoad1 (tg 15))),
  gd 14 false (some 17) (ip 17 (pLen (tg 16))),
  gd 14 false (some 18) (ip 18 (pBin .gtr (tg 17) (cv (.int .i64 64)))),
  ip 19 (pPick (tg 14) (cv (.bool true)) (tg 18))]
@[simp] def oa5_2_ap := ops_rule (c := oa5_2) rfl
def oa5_3 : List IS := [ip 2 (pMov (cv (.bool false)))]
@[simp] def oa5_3_ap := ops_rule (c := oa5_3) rfl
def ca5_1 : SC := sSeq (sReg (seqI oa5_3)) sRet
@[simp] def ca5_1_ap := seq_rule (c := ca5_1) rfl
def ca5_2 : SC := sCond (tg 19) ca5_1 sSkip
@[simp] def ca5_2_ap := cond_rule (c := ca5_2) rfl
def ca5_3 : SC := sSeq (sReg (seqI oa5_2)) ca5_2
@[simp] def ca5_3_ap := seq_rule (c := ca5_3) rfl
def oa5_4 : List IS := [ip 3 (pMov (cv (.int .i64 0)))]
@[simp] def oa5_4_ap := ops_rule (c := oa5_4) rfl
def oa5_5 : List IS := [ip 20 (pMov (tg 3)),
  ip 21 (pFaddr 1 (tg 1)),
  il 22 (tg 21) (mLoad1 (tg 21)),
  ip 23 (pLen (tg 22)),
  ip 24 (pBin .lss (tg 20) (tg 23))]
@[simp] def oa5_5_ap := ops_rule (c := oa5_5) rfl
def ca5_4 : SC := sCond (tg 24) sSkip (sExit 0)
@[simp] def ca5_4_ap := cond_rule (c := ca5_4) rfl
def ca5_5 : SC := sSeq (sReg (seqI oa5_5)) ca5_4
@[simp] def ca5_5_ap := seq_rule (c := ca5_5) rfl
def oa5_6 : List IS := [ip 27 (pFaddr 1 (tg 1)),
  il 28 (tg 27) (mLoad1 (tg 27)),
  ip 29 (pMov (tg 3)),
  ip 30 (pIaddrS 2 (tg 28) (tg 29)),
  il 31 (tg 30) (mLoadN 2 (tg 30)),
  im 1 4 (mAlloc [(.int .i64 0), (.slice none 0 0)]),
  im0 3 (mStore 2 (tg 4) (tg 31))]
@[simp] def oa5_6_ap := ops_rule (c := oa5_6) rfl
def oa5_7 : List IS := [ip 32 (pFaddr 0 (tg 4)),
  il 33 (tg 32) (mLoad1 (tg 32)),
  ip 34 (pBin .lss (tg 33) (cv (.int .i64 0))),
  ip 35 (pMov (tg 34)),
  gd 35 false (some 36) (ip 36 (pFaddr 0 (tg 4))),
  gd 35 false (some 37) (il 37 (tg 36) (mLoad1 (tg 36))),
  gd 35 false (some 38) (ip 38 (pBin .gtr (tg 37) (cv (.int .i64 24)))),
  ip 39 (pPick (tg 35) (cv (.bool true)) (tg 38)),
  ip 40 (pMov (tg 39)),
  gd 40 false (some 41) (ip 41 (pFaddr 1 (tg 4))),
  gd 40 false (some 42) (il 42 (tg 41) (mLoad1 (tg 41))),
  gd 40 false (some 43) (ip 43 (pLen (tg 42))),
  gd 40 false (some 44) (ip 44 (pBin .gtr (tg 43) (cv (.int .i64 65536)))),
  ip 45 (pPick (tg 40) (cv (.bool true)) (tg 44))]
@[simp] def oa5_7_ap := ops_rule (c := oa5_7) rfl
def oa5_8 : List IS := [ip 2 (pMov (cv (.bool false)))]
@[simp] def oa5_8_ap := ops_rule (c := oa5_8) rfl
def ca5_6 : SC := sSeq (sReg (seqI oa5_8)) sRet
@[simp] def ca5_6_ap := seq_rule (c := ca5_6) rfl
def ca5_7 : SC := sCond (tg 45) ca5_6 sSkip
@[simp] def ca5_7_ap := cond_rule (c := ca5_7) rfl
def ca5_8 : SC := sSeq (sReg (seqI oa5_7)) ca5_7
@[simp] def ca5_8_ap := seq_rule (c := ca5_8) rfl
def oa5_9 : List IS := [ip 5 (pMov (cv (.int .i64 0)))]
@[simp] def oa5_9_ap := ops_rule (c := oa5_9) rfl
def oa5_10 : List IS := [ip 46 (pMov (tg 5)),
  ip 47 (pFaddr 1 (tg 4)),
  il 48 (tg 47) (mLoad1 (tg 47)),
  ip 49 (pLen (tg 48)),
  ip 50 (pBin .lss (tg 46) (tg 49))]
@[simp] def oa5_10_ap := ops_rule (c := oa5_10) rfl
def ca5_9 : SC := sCond (tg 50) sSkip (sExit 2)
@[simp] def ca5_9_ap := cond_rule (c := ca5_9) rfl
def ca5_10 : SC := sSeq (sReg (seqI oa5_10)) ca5_9
@[simp] def ca5_10_ap := seq_rule (c := ca5_10) rfl
def oa5_11 : List DA := [⟨CI.pure (pFaddr 1 (tg 4)), (some 53), none, 0, []⟩,
  ⟨CI.load (tg 53) (mLoad1 (tg 53)), (some 54), none, 1, []⟩,
  ⟨CI.pure (pMov (tg 5)), (some 55), none, 2, []⟩,
  ⟨CI.pure (pIaddrS 11 (tg 54) (tg 55)), (some 56), none, 3, []⟩,
  ⟨CI.load (tg 56) (mLoadN 11 (tg 56)), (some 57), none, 4, []⟩,
  ⟨CI.load (tg 1) (mLoadN 2 (tg 1)), (some 58), none, 5, []⟩,
  ⟨CI.load (tg 4) (mLoadN 2 (tg 4)), (some 59), none, 6, []⟩,
  ⟨CI.mem 3 (mCall 37 [(tg 57), (tg 58), (tg 59)]), (some 60), none, 7, []⟩,
  ⟨CI.pure (pUn .not (tg 60)), (some 61), none, 8, []⟩]
@[simp] def oa5_11_ap := das_rule (c := oa5_11) rfl
def oa5_12 : List IS := [ip 2 (pMov (cv (.bool false)))]
@[simp] def oa5_12_ap := ops_rule (c := oa5_12) rfl
def ca5_11 : SC := sSeq (sReg (seqI oa5_12)) sRet
@[simp] def ca5_11_ap := seq_rule (c := ca5_11) rfl
def ca5_12 : SC := sCond (tg 61) ca5_11 sSkip
@[simp] def ca5_12_ap := cond_rule (c := ca5_12) rfl
def ca5_13 : SC := sSeq (sAny oa5_11) ca5_12
@[simp] def ca5_13_ap := seq_rule (c := ca5_13) rfl
def ca5_14 : SC := sBlock 3 ca5_13
@[simp] def ca5_14_ap := block_rule (c := ca5_14) rfl
def oa5_13 : List IS := [ip 51 (pMov (tg 5)),
  ip 52 (pBin .add (tg 51) (cv (.int .i64 1))),
  ip 5 (pMov (tg 52))]
@[simp] def oa5_13_ap := ops_rule (c := oa5_13) rfl
def ca5_15 : SC := sSeq ca5_14 (sReg (seqI oa5_13))
@[simp] def ca5_15_ap := seq_rule (c := ca5_15) rfl
def ca5_16 : SC := sSeq ca5_10 ca5_15
@[simp] def ca5_16_ap := seq_rule (c := ca5_16) rfl
def ca5_17 : SC := sLoop ca5_16
def ca5_18 : SC := sBlock 2 ca5_17
@[simp] def ca5_18_ap := block_rule (c := ca5_18) rfl
def ca5_19 : SC := sSeq (sReg (seqI oa5_9)) ca5_18
@[simp] def ca5_19_ap := seq_rule (c := ca5_19) rfl
def ca5_20 : SC := sSeq ca5_8 ca5_19
@[simp] def ca5_20_ap := seq_rule (c := ca5_20) rfl
def ca5_21 : SC := sSeq (sReg (seqI oa5_6)) ca5_20
@[simp] def ca5_21_ap := seq_rule (c := ca5_21) rfl
def ca5_22 : SC := sBlock 1 ca5_21
@[simp] def ca5_22_ap := block_rule (c := ca5_22) rfl
def oa5_14 : List IS := [ip 25 (pMov (tg 3)),
  ip 26 (pBin .add (tg 25) (cv (.int .i64 1))),
  ip 3 (pMov (tg 26))]
@[simp] def oa5_14_ap := ops_rule (c := oa5_14) rfl
def ca5_23 : SC := sSeq ca5_22 (sReg (seqI oa5_14))
@[simp] def ca5_23_ap := seq_rule (c := ca5_23) rfl
def ca5_24 : SC := sSeq ca5_5 ca5_23
@[simp] def ca5_24_ap := seq_rule (c := ca5_24) rfl
def ca5_25 : SC := sLoop ca5_24
def ca5_26 : SC := sBlock 0 ca5_25
@[simp] def ca5_26_ap := block_rule (c := ca5_26) rfl
def ca5_27 : SC := sSeq (sReg (seqI oa5_4)) ca5_26
@[simp] def ca5_27_ap := seq_rule (c := ca5_27) rfl
def oa5_15 : List IS := [ip 2 (pMov (cv (.bool true)))]
@[simp] def oa5_15_ap := ops_rule (c := oa5_15) rfl
def ca5_28 : SC := sSeq (sReg (seqI oa5_15)) sRet
@[simp] def ca5_28_ap := seq_rule (c := ca5_28) rfl
def ca5_29 : SC := sSeq ca5_27 ca5_28
@[simp] def ca5_29_ap := seq_rule (c := ca5_29) rfl
def ca5_30 : SC := sSeq ca5_3 ca5_29
@[simp] def ca5_30_ap := seq_rule (c := ca5_30) rfl
def ca5_31 : SC := sSeq (sReg (seqI oa5_1)) ca5_30
@[simp] def ca5_31_ap := seq_rule (c := ca5_31) rfl
def da5 : DFn := ⟨ca5_31, 62, [.t 2]⟩
theorem da5_ok : fnOf Tryz.prog 19 = some da5 := by kernel_rfl
def ob2_1 : List IS := [im 1 1 (mBox (tg 0)),
  im 1 2 (mAlloc [(.int .i64 0), (.slice none 0 0)])]
@[simp] def ob2_1_ap := ops_rule (c := ob2_1) rfl
def ob2_2 : List IS := [ip 9 (pFaddr 0 (tg 1)),
  il 10 (tg 9) (mLoad1 (tg 9)),
  ip 11 (pBuild [(.int .i64 0), (.slice none 0 0)] [(0, 1, (tg 10))]),
  im 1 3 (mAlloc [(.int .i64 0), (.slice none 0 0)]),
  im0 3 (mStore 2 (tg 3) (tg 11))]
@[simp] def ob2_2_ap := ops_rule (c := ob2_2) rfl
def ob2_3 : List IS := [ip 12 (pFaddr 1 (tg 1)),
  il 13 (tg 12) (mLoad1 (tg 12)),
  ip 14 (pLen (tg 13)),
  ip 15 (pMov (cv (.int .i64 0)))]
@[simp] def ob2_3_ap := ops_rule (c := ob2_3) rfl
def ob2_4 : List IS := [ip 16 (pBin .lss (tg 15) (tg 14))]
@[simp] def ob2_4_ap := ops_rule (c := ob2_4) rfl
def cb2_1 : SC := sCond (tg 16) sSkip (sExit 0)
@[simp] def cb2_1_ap := cond_rule (c := cb2_1) rfl
def ob2_5 : List IS := [ip 17 (pIaddrS 2 (tg 13) (tg 15)),
  il 18 (tg 17) (mLoadN 2 (tg 17)),
  im 1 5 (mAlloc [(.int .i64 0), (.slice none 0 0)]),
  im0 3 (mStore 2 (tg 5) (tg 18))]
@[simp] def ob2_5_ap := ops_rule (c := ob2_5) rfl
def ob2_6 : List IS := [ip 19 (pFaddr 1 (tg 5)),
  il 20 (tg 19) (mLoad1 (tg 19)),
  im 3 21 (mCall 62 [(tg 20)]),
  ip 22 (pBuild [(.slice none 0 0)] [(0, 1, (tg 21))]),
  im 1 23 (mBox (tg 22)),
  ip 6 (pMov (tg 23))]
@[simp] def ob2_6_ap := ops_rule (c := ob2_6) rfl
def ob2_7 : List IS := [im 3 24 (mCall 63 []),
  ip 25 (pLen (tg 24)),
  ip 26 (pMov (cv (.int .i64 0)))]
@[simp] def ob2_7_ap := ops_rule (c := ob2_7) rfl
def ob2_8 : List IS := [ip 27 (pBin .lss (tg 26) (tg 25))]
@[simp] def ob2_8_ap := ops_rule (c := ob2_8) rfl
def cb2_2 : SC := sCond (tg 27) sSkip (sExit 2)
@[simp] def cb2_2_ap := cond_rule (c := cb2_2) rfl
def ob2_9 : List IS := [ip 28 (pIaddrS 1 (tg 24) (tg 26)),
  il 29 (tg 28) (mLoad1 (tg 28)),
  ip 8 (pMov (tg 29))]
@[simp] def ob2_9_ap := ops_rule (c := ob2_9) rfl
def ob2_10 : List IS := [ip 30 (pMov (tg 8)),
  ip 31 (pMov (tg 6)),
  im 3 32 (mCallv (tg 30) [(tg 31)])]
@[simp] def ob2_10_ap := ops_rule (c := ob2_10) rfl
def cb2_3 : SC := sSeq (sReg (seqI ob2_9)) (sReg (seqI ob2_10))
@[simp] def cb2_3_ap := seq_rule (c := cb2_3) rfl
def cb2_4 : SC := sBlock 3 cb2_3
@[simp] def cb2_4_ap := block_rule (c := cb2_4) rfl
def ob2_11 : List IS := [ip 33 (pBin .add (tg 26) (cv (.int .i64 1))),
  ip 26 (pMov (tg 33))]
@[simp] def ob2_11_ap := ops_rule (c := ob2_11) rfl
def cb2_5 : SC := sSeq cb2_4 (sReg (seqI ob2_11))
@[simp] def cb2_5_ap := seq_rule (c := cb2_5) rfl
def cb2_6 : SC := sSeq cb2_2 cb2_5
@[simp] def cb2_6_ap := seq_rule (c := cb2_6) rfl
def cb2_7 : SC := sSeq (sReg (seqI ob2_8)) cb2_6
@[simp] def cb2_7_ap := seq_rule (c := cb2_7) rfl
def cb2_8 : SC := sLoop cb2_7
def cb2_9 : SC := sBlock 2 cb2_8
@[simp] def cb2_9_ap := block_rule (c := cb2_9) rfl
def cb2_10 : SC := sSeq (sReg (seqI ob2_7)) cb2_9
@[simp] def cb2_10_ap := seq_rule (c := cb2_10) rfl
def ob2_12 : List DA := [⟨CI.pure (pFaddr 1 (tg 3)), (some 34), none, 0, []⟩,
  ⟨CI.load (tg 34) (mLoad1 (tg 34)), (some 35), none, 1, []⟩,
  ⟨CI.pure (pFaddr 0 (tg 5)), (some 36), none, 2, []⟩,
  ⟨CI.load (tg 36) (mLoad1 (tg 36)), (some 37), none, 3, []⟩,
  ⟨CI.pure (pMov (tg 6)), (some 38), none, 4, []⟩,
  ⟨CI.pure (pNilck (tg 38)), (some 39), none, 5, []⟩,
  ⟨CI.pure (pFaddr 0 (tg 39)), (some 40), none, 6, []⟩,
  ⟨CI.load (tg 40) (mLoad1 (tg 40)), (some 41), none, 7, []⟩,
  ⟨CI.pure (pBuild [(.int .i64 0), (.slice none 0 0)] [(0, 1, (tg 37)), (1, 1, (tg 41))]), (some 42), none, 8, []⟩,
  ⟨CI.mem 1 (mBslice 2 1 (rep 1 [(.int .i64 0), (.slice none 0 0)]) [(0, 2, (tg 42))]), (some 43), none, 9, []⟩,
  ⟨CI.mem 3 (mAppend 2 32 (tg 35) (tg 43)), (some 44), none, 10, []⟩,
  ⟨CI.pure (pFaddr 1 (tg 3)), (some 45), none, 11, []⟩,
  ⟨CI.mem 3 (mStore 1 (tg 45) (tg 44)), none, none, 12, []⟩]
@[simp] def ob2_12_ap := das_rule (c := ob2_12) rfl
def cb2_11 : SC := sSeq cb2_10 (sAny ob2_12)
@[simp] def cb2_11_ap := seq_rule (c := cb2_11) rfl
def cb2_12 : SC := sSeq (sReg (seqI ob2_6)) cb2_11
@[simp] def cb2_12_ap := seq_rule (c := cb2_12) rfl
def cb2_13 : SC := sSeq (sReg (seqI ob2_5)) cb2_12
@[simp] def cb2_13_ap := seq_rule (c := cb2_13) rfl
def cb2_14 : SC := sBlock 1 cb2_13
@[simp] def cb2_14_ap := block_rule (c := cb2_14) rfl
def ob2_13 : List IS := [ip 46 (pBin .add (tg 15) (cv (.int .i64 1))),
  ip 15 (pMov (tg 46))]
@[simp] def ob2_13_ap := ops_rule (c := ob2_13) rfl
def cb2_15 : SC := sSeq cb2_14 (sReg (seqI ob2_13))
@[simp] def cb2_15_ap := seq_rule (c := cb2_15) rfl
def cb2_16 : SC := sSeq cb2_1 cb2_15
@[simp] def cb2_16_ap := seq_rule (c := cb2_16) rfl
def cb2_17 : SC := sSeq (sReg (seqI ob2_4)) cb2_16
@[simp] def cb2_17_ap := seq_rule (c := cb2_17) rfl
def cb2_18 : SC := sLoop cb2_17
def cb2_19 : SC := sBlock 0 cb2_18
@[simp] def cb2_19_ap := block_rule (c := cb2_19) rfl
def cb2_20 : SC := sSeq (sReg (seqI ob2_3)) cb2_19
@[simp] def cb2_20_ap := seq_rule (c := cb2_20) rfl
def ob2_14 : List IS := [il 47 (tg 3) (mLoadN 2 (tg 3)),
  im0 3 (mStore 2 (tg 2) (tg 47))]
@[simp] def ob2_14_ap := ops_rule (c := ob2_14) rfl
def cb2_21 : SC := sSeq (sReg (seqI ob2_14)) sRet
@[simp] def cb2_21_ap := seq_rule (c := cb2_21) rfl
def cb2_22 : SC := sSeq cb2_20 cb2_21
@[simp] def cb2_22_ap := seq_rule (c := cb2_22) rfl
def cb2_23 : SC := sSeq (sReg (seqI ob2_2)) cb2_22
@[simp] def cb2_23_ap := seq_rule (c := cb2_23) rfl
def cb2_24 : SC := sSeq (sReg (seqI ob2_1)) cb2_23
@[simp] def cb2_24_ap := seq_rule (c := cb2_24) rfl
def db2 : DFn := ⟨cb2_24, 48, [.cell 2 2]⟩
theorem db2_ok : fnOf Tryz.prog 34 = some db2 := by kernel_rfl
def oc4 : List IS := [im 1 2 (mBox (tg 0)),
  im 1 3 (mBox (tg 1)),
  ip 4 (pMov (cv (.bool false)))]
@[simp] def oc4_ap := ops_rule (c := oc4) rfl
def ob3_2 : List IS := [ip 5 (pFaddr 1 (tg 2)),
  il 6 (tg 5) (mLoad1 (tg 5)),
  ip 7 (pFaddr 1 (tg 3)),
  il 8 (tg 7) (mLoad1 (tg 7)),
  im 3 9 (mCall 64 [(tg 6), (tg 8), (cv (.func (.func 65) #[] #[]))]),
  ip 4 (pMov (tg 9))]
@[simp] def ob3_2_ap := ops_rule (c := ob3_2) rfl
def cc4 : SC := sSeq (sReg (seqI ob3_2)) sRet
@[simp] def cc4_ap := seq_rule (c := cc4) rfl
def cb3_2 : SC := sSeq (sReg (seqI oc4)) cc4
@[simp] def cb3_2_ap := seq_rule (c := cb3_2) rfl
def db3 : DFn := ⟨cb3_2, 10, [.t 4]⟩
theorem db3_ok : fnOf Tryz.prog 35 = some db3 := by kernel_rfl
def ob4_1 : List IS := [ip 4 (pMov (cv (.bool false)))]
@[simp] def ob4_1_ap := ops_rule (c := ob4_1) rfl
def ob4_2 : List IS := [ip 6 (pMov (tg 0)),
  ip 7 (pLen (tg 6)),
  ip 8 (pMov (tg 1)),
  ip 9 (pLen (tg 8)),
  ip 10 (pBin .neq (tg 7) (tg 9))]
@[simp] def ob4_2_ap := ops_rule (c := ob4_2) rfl
def ob4_3 : List IS := [ip 4 (pMov (cv (.bool false)))]
def cb4_1 : SC := sSeq (sReg (seqI ob4_3)) sRet
def cb4_2 : SC := sCond (tg 10) cb4_1 sSkip
@[simp] def cb4_2_ap := cond_rule (c := cb4_2) rfl
def cb4_3 : SC := sSeq (sReg (seqI ob4_2)) cb4_2
@[simp] def cb4_3_ap := seq_rule (c := cb4_3) rfl
def ob4_4 : List IS := [ip 5 (pMov (cv (.int .i64 0)))]
@[simp] def ob4_4_ap := ops_rule (c := ob4_4) rfl
def ob4_5 : List IS := [ip 11 (pMov (tg 5)),
  ip 12 (pMov (tg 0)),
  ip 13 (pLen (tg 12)),
  ip 14 (pBin .lss (tg 11) (tg 13))]
@[simp] def ob4_5_ap := ops_rule (c := ob4_5) rfl
def cb4_4 : SC := sCond (tg 14) sSkip (sExit 0)
@[simp] def cb4_4_ap := cond_rule (c := cb4_4) rfl
def cb4_5 : SC := sSeq (sReg (seqI ob4_5)) cb4_4
@[simp] def cb4_5_ap := seq_rule (c := cb4_5) rfl
def ob4_6 : List DA := [⟨CI.pure (pMov (tg 0)), (some 17), none, 0, []⟩,
  ⟨CI.pure (pMov (tg 5)), (some 18), none, 1, []⟩,
  ⟨CI.pure (pIaddrS 4 (tg 17) (tg 18)), (some 19), none, 2, []⟩,
  ⟨CI.load (tg 19) (mLoadN 4 (tg 19)), (some 20), none, 3, []⟩,
  ⟨CI.pure (pMov (tg 1)), (some 21), none, 4, []⟩,
  ⟨CI.pure (pMov (tg 5)), (some 22), none, 5, []⟩,
  ⟨CI.pure (pIaddrS 4 (tg 21) (tg 22)), (some 23), none, 6, []⟩,
  ⟨CI.load (tg 23) (mLoadN 4 (tg 23)), (some 24), none, 7, []⟩,
  ⟨CI.pure (pEqF true [1, 1, 1, 1] (tg 20) (tg 24)), (some 25), none, 8, []⟩]
@[simp] def ob4_6_ap := das_rule (c := ob4_6) rfl
def ob4_7 : List IS := [ip 4 (pMov (cv (.bool false)))]
def cb4_6 : SC := sSeq (sReg (seqI ob4_7)) sRet
def cb4_7 : SC := sCond (tg 25) cb4_6 sSkip
@[simp] def cb4_7_ap := cond_rule (c := cb4_7) rfl
def cb4_8 : SC := sSeq (sAny ob4_6) cb4_7
@[simp] def cb4_8_ap := seq_rule (c := cb4_8) rfl
def cb4_9 : SC := sBlock 1 cb4_8
@[simp] def cb4_9_ap := block_rule (c := cb4_9) rfl
def ob4_8 : List IS := [ip 15 (pMov (tg 5)),
  ip 16 (pBin .add (tg 15) (cv (.int .i64 1))),
  ip 5 (pMov (tg 16))]
@[simp] def ob4_8_ap := ops_rule (c := ob4_8) rfl
def cb4_10 : SC := sSeq cb4_9 (sReg (seqI ob4_8))
@[simp] def cb4_10_ap := seq_rule (c := cb4_10) rfl
def cb4_11 : SC := sSeq cb4_5 cb4_10
@[simp] def cb4_11_ap := seq_rule (c := cb4_11) rfl
def cb4_12 : SC := sLoop cb4_11
def cb4_13 : SC := sBlock 0 cb4_12
@[simp] def cb4_13_ap := block_rule (c := cb4_13) rfl
def cb4_14 : SC := sSeq (sReg (seqI ob4_4)) cb4_13
@[simp] def cb4_14_ap := seq_rule (c := cb4_14) rfl
def ob4_9 : List IS := [ip 4 (pMov (cv (.bool true)))]
@[simp] def ob4_9_ap := ops_rule (c := ob4_9) rfl
def cb4_15 : SC := sSeq (sReg (seqI ob4_9)) sRet
@[simp] def cb4_15_ap := seq_rule (c := cb4_15) rfl
def cb4_16 : SC := sSeq cb4_14 cb4_15
@[simp] def cb4_16_ap := seq_rule (c := cb4_16) rfl
def cb4_17 : SC := sSeq cb4_3 cb4_16
@[simp] def cb4_17_ap := seq_rule (c := cb4_17) rfl
def cb4_18 : SC := sSeq (sReg (seqI ob4_1)) cb4_17
@[simp] def cb4_18_ap := seq_rule (c := cb4_18) rfl
def db4 : DFn := ⟨cb4_18, 26, [.t 4]⟩
theorem db4_ok : fnOf Tryz.prog 36 = some db4 := by kernel_rfl
def ob5_1 : List IS := [im 1 3 (mBox (tg 0)),
  im 1 4 (mBox (tg 1)),
  im 1 5 (mBox (tg 2)),
  ip 6 (pMov (cv (.bool false)))]
@[simp] def ob5_1_ap := ops_rule (c := ob5_1) rfl
def ob5_2 : List IS := [ip 9 (pFaddr 0 (tg 3)),
  il 10 (tg 9) (mLoad1 (tg 9)),
  ip 11 (pBin .lss (tg 10) (cv (.int .i64 1))),
  ip 12 (pMov (tg 11)),
  gd 12 false (some 13) (ip 13 (pFaddr 0 (tg 3))),
  gd 12 false (some 14) (il 14 (tg 13) (mLoad1 (tg 13))),
  gd 12 false (some 15) (ip 15 (pBin .gtr (tg 14) (cv (.int .i64 10)))),
  ip 16 (pPick (tg 12) (cv (.bool true)) (tg 15)),
  ip 17 (pMov (tg 16)),
  gd 17 false (some 18) (ip 18 (pFaddr 0 (tg 3))),
  gd 17 false (some 19) (il 19 (tg 18) (mLoad1 (tg 18))),
  gd 17 false (some 20) (ip 20 (pFaddr 7 (tg 3))),
  gd 17 false (some 21) (il 21 (tg 20) (mLoad1 (tg 20))),
  gd 17 false (some 22) (im 3 22 (mCall 69 [(tg 19), (tg 21)])),
  gd 17 false (some 23) (ip 23 (pUn .not (tg 22))),
  ip 24 (pPick (tg 17) (cv (.bool true)) (tg 23))]
@[simp] def ob5_2_ap := ops_rule (c := ob5_2) rfl
def ob5_3 : List IS := [ip 6 (pMov (cv (.bool false)))]
@[simp] def ob5_3_ap := ops_rule (c := ob5_3) rfl
def cb5_1 : SC := sSeq (sReg (seqI ob5_3)) sRet
@[simp] def cb5_1_ap := seq_rule (c := cb5_1) rfl
def cb5_2 : SC := sCond (tg 24) cb5_1 sSkip
@[simp] def cb5_2_ap := cond_rule (c := cb5_2) rfl
def cb5_3 : SC := sSeq (sReg (seqI ob5_2)) cb5_2
@[simp] def cb5_3_ap := seq_rule (c := cb5_3) rfl
def ob5_4 : List IS := [ip 25 (pFaddr 0 (tg 3)),
  il 26 (tg 25) (mLoad1 (tg 25)),
  im 3 27 (mCall 70 [(tg 26)]),
  ip 28 (pMov (tg 27)),
  gd 28 true (some 29) (ip 29 (pFaddr 1 (tg 3))),
  gd 28 true (some 30) (il 30 (tg 29) (mLoad1 (tg 29))),
  gd 28 true (some 31) (ip 31 (pBin .lss (tg 30) (cv (.int .i64 0)))),
  gd 28 true (some 32) (ip 32 (pMov (tg 31))),
  gd 32 false (some 33) (ip 33 (pFaddr 1 (tg 3))),
  gd 32 false (some 34) (il 34 (tg 33) (mLoad1 (tg 33))),
  gd 32 false (some 35) (ip 35 (pFaddr 0 (tg 5))),
  gd 32 false (some 36) (il 36 (tg 35) (mLoad1 (tg 35))),
  gd 32 false (some 37) (ip 37 (pBin .geq (tg 34) (tg 36))),
  gd 28 true (some 38) (ip 38 (pPick (tg 32) (cv (.bool true)) (tg 37))),
  ip 39 (pPick (tg 28) (tg 38) (cv (.bool false))),
  ip 40 (pMov (tg 39)),
  gd 40 false (some 41) (ip 41 (pFaddr 0 (tg 3))),
  gd 40 false (some 42) (il 42 (tg 41) (mLoad1 (tg 41))),
  gd 40 false (some 43) (im 3 43 (mCall 70 [(tg 42)])),
  gd 40 false (some 44) (ip 44 (pUn .not (tg 43))),
  gd 40 false (some 45) (ip 45 (pMov (tg 44))),
  gd 45 true (some 46) (ip 46 (pFaddr 1 (tg 3))),
  gd 45 true (some 47) (il 47 (tg 46) (mLoad1 (tg 46))),
  gd 45 true (some 48) (ip 48 (pBin .neq (tg 47) (cv (.int .i64 0)))),
  gd 40 false (some 49) (ip 49 (pPick (tg 45) (tg 48) (cv (.bool false)))),
  ip 50 (pPick (tg 40) (cv (.bool true)) (tg 49))]
@[simp] def ob5_4_ap := ops_rule (c := ob5_4) rfl
def ob5_5 : List IS := [ip 6 (pMov (cv (.bool false)))]
@[simp] def ob5_5_ap := ops_rule (c := ob5_5) rfl
def cb5_4 : SC := sSeq (sReg (seqI ob5_5)) sRet
@[simp] def cb5_4_ap := seq_rule (c := cb5_4) rfl
def cb5_5 : SC := sCond (tg 50) cb5_4 sSkip
@[simp] def cb5_5_ap := cond_rule (c := cb5_5) rfl
def cb5_6 : SC := sSeq (sReg (seqI ob5_4)) cb5_5
@[simp] def cb5_6_ap := seq_rule (c := cb5_6) rfl
def ob5_6 : List IS := [ip 51 (pFaddr 0 (tg 3)),
  il 52 (tg 51) (mLoad1 (tg 51)),
  im 3 53 (mCall 71 [(tg 52)])]
@[simp] def ob5_6_ap := ops_rule (c := ob5_6) rfl
def ob5_7 : List IS := [ip 54 (pFaddr 3 (tg 3)),
  il 55 (tg 54) (mLoad1 (tg 54)),
  ip 7 (pMov (tg 55))]
@[simp] def ob5_7_ap := ops_rule (c := ob5_7) rfl
def ob5_8 : List IS := [ip 56 (pMov (tg 7)),
  ip 57 (pBin .eql (tg 56) (cv (.int .i64 0)))]
@[simp] def ob5_8_ap := ops_rule (c := ob5_8) rfl
def ob5_9 : List IS := [ip 7 (pMov (cv (.int .i64 1)))]
@[simp] def ob5_9_ap := ops_rule (c := ob5_9) rfl
def ob5_10 : List IS := [ip 58 (pMov (tg 7)),
  im 3 59 (mCall 72 [(tg 58)]),
  ip 60 (pUn .not (tg 59))]
@[simp] def ob5_10_ap := ops_rule (c := ob5_10) rfl
def ob5_11 : List IS := [ip 6 (pMov (cv (.bool false)))]
@[simp] def ob5_11_ap := ops_rule (c := ob5_11) rfl
def cb5_7 : SC := sSeq (sReg (seqI ob5_11)) sRet
@[simp] def cb5_7_ap := seq_rule (c := cb5_7) rfl
def cb5_8 : SC := sCond (tg 60) cb5_7 sSkip
@[simp] def cb5_8_ap := cond_rule (c := cb5_8) rfl
def cb5_9 : SC := sSeq (sReg (seqI ob5_10)) cb5_8
@[simp] def cb5_9_ap := seq_rule (c := cb5_9) rfl
def cb5_10 : SC := sCond (tg 57) (sReg (seqI ob5_9)) cb5_9
@[simp] def cb5_10_ap := cond_rule (c := cb5_10) rfl
def cb5_11 : SC := sSeq (sReg (seqI ob5_8)) cb5_10
@[simp] def cb5_11_ap := seq_rule (c := cb5_11) rfl
def ob5_12 : List IS := [ip 61 (pFaddr 2 (tg 3)),
  il 62 (tg 61) (mLoad1 (tg 61)),
  ip 63 (pBin .lss (tg 62) (cv (.int .i64 0))),
  ip 64 (pMov (tg 63)),
  gd 64 false (some 65) (ip 65 (pFaddr 2 (tg 3))),
  gd 64 false (some 66) (il 66 (tg 65) (mLoad1 (tg 65))),
  gd 64 false (some 67) (ip 67 (pFaddr 0 (tg 4))),
  gd 64 false (some 68) (il 68 (tg 67) (mLoad1 (tg 67))),
  gd 64 false (some 69) (ip 69 (pMov (tg 7))),
  gd 64 false (some 70) (ip 70 (pBin .sub (tg 68) (tg 69))),
  gd 64 false (some 71) (ip 71 (pBin .gtr (tg 66) (tg 70))),
  ip 72 (pPick (tg 64) (cv (.bool true)) (tg 71)),
  ip 73 (pMov (tg 72)),
  gd 73 false (some 74) (ip 74 (pFaddr 3 (tg 3))),
  gd 73 false (some 75) (il 75 (tg 74) (mLoad1 (tg 74))),
  gd 73 false (some 76) (ip 76 (pBin .eql (tg 75) (cv (.int .i64 0)))),
  gd 73 false (some 77) (ip 77 (pMov (tg 76))),
  gd 77 true (some 78) (ip 78 (pFaddr 4 (tg 3))),
  gd 77 true (some 79) (il 79 (tg 78) (mLoad1 (tg 78))),
  gd 77 true (some 80) (ip 80 (pLen (tg 79))),
  gd 77 true (some 81) (ip 81 (pBin .gtr (tg 80) (cv (.int .i64 0)))),
  gd 73 false (some 82) (ip 82 (pPick (tg 77) (tg 81) (cv (.bool false)))),
  ip 83 (pPick (tg 73) (cv (.bool true)) (tg 82)),
  ip 84 (pMov (tg 83)),
  gd 84 false (some 85) (ip 85 (pFaddr 3 (tg 3))),
  gd 84 false (some 86) (il 86 (tg 85) (mLoad1 (tg 85))),
  gd 84 false (some 87) (ip 87 (pBin .gtr (tg 86) (cv (.int .i64 0)))),
  gd 84 false (some 88) (ip 88 (pMov (tg 87))),
  gd 88 true (some 89) (ip 89 (pFaddr 4 (tg 3))),
  gd 88 true (some 90) (il 90 (tg 89) (mLoad1 (tg 89))),
  gd 88 true (some 91) (ip 91 (pFaddr 0 (tg 5))),
  gd 88 true (some 92) (il 92 (tg 91) (mLoad1 (tg 91))),
  gd 88 true (some 93) (im 3 93 (mCall 51 [(tg 90), (tg 92)])),
  gd 88 true (some 94) (ip 94 (pUn .not (tg 93))),
  gd 84 false (some 95) (ip 95 (pPick (tg 88) (tg 94) (cv (.bool false)))),
  ip 96 (pPick (tg 84) (cv (.bool true)) (tg 95))]
@[simp] def ob5_12_ap := ops_rule (c := ob5_12) rfl
def ob5_13 : List IS := [ip 6 (pMov (cv (.bool false)))]
@[simp] def ob5_13_ap := ops_rule (c := ob5_13) rfl
def cb5_12 : SC := sSeq (sReg (seqI ob5_13)) sRet
@[simp] def cb5_12_ap := seq_rule (c := cb5_12) rfl
def cb5_13 : SC := sCond (tg 96) cb5_12 sSkip
@[simp] def cb5_13_ap := cond_rule (c := cb5_13) rfl
def cb5_14 : SC := sSeq (sReg (seqI ob5_12)) cb5_13
@[simp] def cb5_14_ap := seq_rule (c := cb5_14) rfl
def cb5_15 : SC := sSeq cb5_11 cb5_14
@[simp] def cb5_15_ap := seq_rule (c := cb5_15) rfl
def cb5_16 : SC := sSeq (sReg (seqI ob5_7)) cb5_15
@[simp] def cb5_16_ap := seq_rule (c := cb5_16) rfl
def ob5_14 : List IS := [ip 97 (pFaddr 2 (tg 3)),
  il 98 (tg 97) (mLoad1 (tg 97)),
  ip 99 (pBin .neq (tg 98) (cv (.int .i64 0))),
  ip 100 (pMov (tg 99)),
  gd 100 false (some 101) (ip 101 (pFaddr 3 (tg 3))),
  gd 100 false (some 102) (il 102 (tg 101) (mLoad1 (tg 101))),
  gd 100 false (some 103) (ip 103 (pBin .neq (tg 102) (cv (.int .i64 0)))),
  ip 104 (pPick (tg 100) (cv (.bool true)) (tg 103)),
  ip 105 (pMov (tg 104)),
  gd 105 false (some 106) (ip 106 (pFaddr 4 (tg 3))),
  gd 105 false (some 107) (il 107 (tg 106) (mLoad1 (tg 106))),
  gd 105 false (some 108) (ip 108 (pLen (tg 107))),
  gd 105 false (some 109) (ip 109 (pBin .gtr (tg 108) (cv (.int .i64 0)))),
  ip 110 (pPick (tg 105) (cv (.bool true)) (tg 109))]
@[simp] def ob5_14_ap := ops_rule (c := ob5_14) rfl
def ob5_15 : List IS := [ip 6 (pMov (cv (.bool false)))]
@[simp] def ob5_15_ap := ops_rule (c := ob5_15) rfl
def cb5_17 : SC := sSeq (sReg (seqI ob5_15)) sRet
@[simp] def cb5_17_ap := seq_rule (c := cb5_17) rfl
def cb5_18 : SC := sCond (tg 110) cb5_17 sSkip
@[simp] def cb5_18_ap := cond_rule (c := cb5_18) rfl
def cb5_19 : SC := sSeq (sReg (seqI ob5_14)) cb5_18
@[simp] def cb5_19_ap := seq_rule (c := cb5_19) rfl
def cb5_20 : SC := sCond (tg 53) cb5_16 cb5_19
@[simp] def cb5_20_ap := cond_rule (c := cb5_20) rfl
def cb5_21 : SC := sSeq (sReg (seqI ob5_6)) cb5_20
@[simp] def cb5_21_ap := seq_rule (c := cb5_21) rfl
def ob5_16 : List IS := [ip 111 (pFaddr 0 (tg 3)),
  il 112 (tg 111) (mLoad1 (tg 111)),
  ip 113 (pBin .neq (tg 112) (cv (.int .i64 2))),
  ip 114 (pMov (tg 113)),
  gd 114 true (some 115) (ip 115 (pFaddr 0 (tg 3))),
  gd 114 true (some 116) (il 116 (tg 115) (mLoad1 (tg 115))),
  gd 114 true (some 117) (ip 117 (pBin .neq (tg 116) (cv (.int .i64 7)))),
  ip 118 (pPick (tg 114) (tg 117) (cv (.bool false))),
  ip 119 (pMov (tg 118)),
  gd 119 true (some 120) (ip 120 (pFaddr 0 (tg 3))),
  gd 119 true (some 121) (il 121 (tg 120) (mLoad1 (tg 120))),
  gd 119 true (some 122) (ip 122 (pBin .neq (tg 121) (cv (.int .i64 9)))),
  ip 123 (pPick (tg 119) (tg 122) (cv (.bool false))),
  ip 8 (pMov (tg 123))]
@[simp] def ob5_16_ap := ops_rule (c := ob5_16) rfl
def ob5_17 : List IS := [ip 124 (pMov (tg 8)),
  ip 125 (pMov (tg 124)),
  gd 125 true (some 126) (ip 126 (pFaddr 5 (tg 3))),
  gd 125 true (some 127) (il 127 (tg 126) (mLoad1 (tg 126))),
  gd 125 true (some 128) (ip 128 (pFaddr 0 (tg 5))),
  gd 125 true (some 129) (il 129 (tg 128) (mLoad1 (tg 128))),
  gd 125 true (some 130) (im 3 130 (mCall 51 [(tg 127), (tg 129)])),
  gd 125 true (some 131) (ip 131 (pUn .not (tg 130))),
  ip 132 (pPick (tg 125) (tg 131) (cv (.bool false))),
  ip 133 (pMov (tg 132)),
  gd 133 false (some 134) (ip 134 (pMov (tg 8))),
  gd 133 false (some 135) (ip 135 (pUn .not (tg 134))),
  gd 133 false (some 136) (ip 136 (pMov (tg 135))),
  gd 136 true (some 137) (ip 137 (pFaddr 5 (tg 3))),
  gd 136 true (some 138) (il 138 (tg 137) (mLoad1 (tg 137))),
  gd 136 true (some 139) (ip 139 (pLen (tg 138))),
  gd 136 true (some 140) (ip 140 (pBin .gtr (tg 139) (cv (.int .i64 0)))),
  gd 133 false (some 141) (ip 141 (pPick (tg 136) (tg 140) (cv (.bool false)))),
  ip 142 (pPick (tg 133) (cv (.bool true)) (tg 141))]
@[simp] def ob5_17_ap := ops_rule (c := ob5_17) rfl
def ob5_18 : List IS := [ip 6 (pMov (cv (.bool false)))]
@[simp] def ob5_18_ap := ops_rule (c := ob5_18) rfl
def cb5_22 : SC := sSeq (sReg (seqI ob5_18)) sRet
@[simp] def cb5_22_ap := seq_rule (c := cb5_22) rfl
def cb5_23 : SC := sCond (tg 142) cb5_22 sSkip
@[simp] def cb5_23_ap := cond_rule (c := cb5_23) rfl
def cb5_24 : SC := sSeq (sReg (seqI ob5_17)) cb5_23
@[simp] def cb5_24_ap := seq_rule (c := cb5_24) rfl
def ob5_19 : List IS := [ip 143 (pFaddr 0 (tg 3)),
  il 144 (tg 143) (mLoad1 (tg 143)),
  ip 145 (pBin .eql (tg 144) (cv (.int .i64 6))),
  ip 146 (pMov (tg 145)),
  gd 146 true (some 147) (ip 147 (pFaddr 6 (tg 3))),
  gd 146 true (some 148) (il 148 (tg 147) (mLoad1 (tg 147))),
  gd 146 true (some 149) (ip 149 (pFaddr 0 (tg 5))),
  gd 146 true (some 150) (il 150 (tg 149) (mLoad1 (tg 149))),
  gd 146 true (some 151) (im 3 151 (mCall 51 [(tg 148), (tg 150)])),
  gd 146 true (some 152) (ip 152 (pUn .not (tg 151))),
  ip 153 (pPick (tg 146) (tg 152) (cv (.bool false))),
  ip 154 (pMov (tg 153)),
  gd 154 false (some 155) (ip 155 (pFaddr 0 (tg 3))),
  gd 154 false (some 156) (il 156 (tg 155) (mLoad1 (tg 155))),
  gd 154 false (some 157) (ip 157 (pBin .neq (tg 156) (cv (.int .i64 6)))),
  gd 154 false (some 158) (ip 158 (pMov (tg 157))),
  gd 158 true (some 159) (ip 159 (pFaddr 6 (tg 3))),
  gd 158 true (some 160) (il 160 (tg 159) (mLoad1 (tg 159))),
  gd 158 true (some 161) (ip 161 (pLen (tg 160))),
  gd 158 true (some 162) (ip 162 (pBin .gtr (tg 161) (cv (.int .i64 0)))),
  gd 154 false (some 163) (ip 163 (pPick (tg 158) (tg 162) (cv (.bool false)))),
  ip 164 (pPick (tg 154) (cv (.bool true)) (tg 163))]
@[simp] def ob5_19_ap := ops_rule (c := ob5_19) rfl
def ob5_20 : List IS := [ip 6 (pMov (cv (.bool false)))]
@[simp] def ob5_20_ap := ops_rule (c := ob5_20) rfl
def cb5_25 : SC := sSeq (sReg (seqI ob5_20)) sRet
@[simp] def cb5_25_ap := seq_rule (c := cb5_25) rfl
def cb5_26 : SC := sCond (tg 164) cb5_25 sSkip
@[simp] def cb5_26_ap := cond_rule (c := cb5_26) rfl
def cb5_27 : SC := sSeq (sReg (seqI ob5_19)) cb5_26
@[simp] def cb5_27_ap := seq_rule (c := cb5_27) rfl
def ob5_21 : List IS := [ip 165 (pFaddr 0 (tg 3)),
  il 166 (tg 165) (mLoad1 (tg 165)),
  ip 167 (pBin .eql (tg 166) (cv (.int .i64 9))),
  ip 168 (pMov (tg 167)),
  gd 168 false (some 169) (ip 169 (pFaddr 0 (tg 3))),
  gd 168 false (some 170) (il 170 (tg 169) (mLoad1 (tg 169))),
  gd 168 false (some 171) (ip 171 (pBin .eql (tg 170) (cv (.int .i64 10)))),
  ip 172 (pPick (tg 168) (cv (.bool true)) (tg 171))]
@[simp] def ob5_21_ap := ops_rule (c := ob5_21) rfl
def ob5_22 : List IS := [ip 173 (pFaddr 8 (tg 3)),
  il 174 (tg 173) (mLoad1 (tg 173)),
  ip 175 (pBin .geq (tg 174) (cv (.int .i64 0))),
  ip 176 (pMov (tg 175)),
  gd 176 true (some 177) (ip 177 (pFaddr 8 (tg 3))),
  gd 176 true (some 178) (il 178 (tg 177) (mLoad1 (tg 177))),
  gd 176 true (some 179) (ip 179 (pFaddr 1 (tg 5))),
  gd 176 true (some 180) (il 180 (tg 179) (mLoad1 (tg 179))),
  gd 176 true (some 181) (ip 181 (pLen (tg 180))),
  gd 176 true (some 182) (ip 182 (pBin .leq (tg 178) (tg 181))),
  ip 183 (pPick (tg 176) (tg 182) (cv (.bool false))),
  ip 6 (pMov (tg 183))]
@[simp] def ob5_22_ap := ops_rule (c := ob5_22) rfl
def cb5_28 : SC := sSeq (sReg (seqI ob5_22)) sRet
@[simp] def cb5_28_ap := seq_rule (c := cb5_28) rfl
def cb5_29 : SC := sCond (tg 172) cb5_28 sSkip
@[simp] def cb5_29_ap := cond_rule (c := cb5_29) rfl
def cb5_30 : SC := sSeq (sReg (seqI ob5_21)) cb5_29
@[simp] def cb5_30_ap := seq_rule (c := cb5_30) rfl
def ob5_23 : List IS := [ip 184 (pFaddr 8 (tg 3)),
  il 185 (tg 184) (mLoad1 (tg 184)),
  ip 186 (pBin .eql (tg 185) (cv (.int .i64 0))),
  ip 6 (pMov (tg 186))]
@[simp] def ob5_23_ap := ops_rule (c := ob5_23) rfl
def cb5_31 : SC := sSeq (sReg (seqI ob5_23)) sRet
@[simp] def cb5_31_ap := seq_rule (c := cb5_31) rfl
def cb5_32 : SC := sSeq cb5_30 cb5_31
@[simp] def cb5_32_ap := seq_rule (c := cb5_32) rfl
def cb5_33 : SC := sSeq cb5_27 cb5_32
@[simp] def cb5_33_ap := seq_rule (c := cb5_33) rfl
def cb5_34 : SC := sSeq cb5_24 cb5_33
@[simp] def cb5_34_ap := seq_rule (c := cb5_34) rfl
def cb5_35 : SC := sSeq (sReg (seqI ob5_16)) cb5_34
@[simp] def cb5_35_ap := seq_rule (c := cb5_35) rfl
def cb5_36 : SC := sSeq cb5_21 cb5_35
@[simp] def cb5_36_ap := seq_rule (c := cb5_36) rfl
def cb5_37 : SC := sSeq cb5_6 cb5_36
@[simp] def cb5_37_ap := seq_rule (c := cb5_37) rfl
def cb5_38 : SC := sSeq cb5_3 cb5_37
@[simp] def cb5_38_ap := seq_rule (c := cb5_38) rfl
def cb5_39 : SC := sSeq (sReg (seqI ob5_1)) cb5_38
@[simp] def cb5_39_ap := seq_rule (c := cb5_39) rfl
def db5 : DFn := ⟨cb5_39, 187, [.t 6]⟩
theorem db5_ok : fnOf Tryz.prog 37 = some db5 := by kernel_rfl
def oc1_1 : List IS := [ip 2 (pMov (cv (.slice none 0 0)))]
@[simp] def oc1_1_ap := ops_rule (c := oc1_1) rfl
def oc1_2 : List IS := [ip 3 (pMov (tg 0)),
  ip 4 (pEqN false nilS true (tg 3) (cv (.slice none 0 0)))]
@[simp] def oc1_2_ap := ops_rule (c := oc1_2) rfl
def oc1_3 : List IS := [ip 2 (pMov (cv (.slice none 0 0)))]
@[simp] def oc1_3_ap := ops_rule (c := oc1_3) rfl
def cc1_1 : SC := sSeq (sReg (seqI oc1_3)) sRet
@[simp] def cc1_1_ap := seq_rule (c := cc1_1) rfl
def cc1_2 : SC := sCond (tg 4) cc1_1 sSkip
@[simp] def cc1_2_ap := cond_rule (c := cc1_2) rfl
def cc1_3 : SC := sSeq (sReg (seqI oc1_2)) cc1_2
@[simp] def cc1_3_ap := seq_rule (c := cc1_3) rfl
def oc1_4 : List IS := [im 1 5 (mBslice 11 0 (rep 0 [(.int .i64 0), (.int .i64 0), (.int .i64 0), (.int .i64 0), (.slice none 0 0), (.slice none 0 0), (.slice none 0 0), (.int .i64 0), (.int .i64 0), (.int .i64 0), (.int .i64 0)]) []),
  ip 6 (pMov (tg 0)),
  im 3 7 (mAppend 11 136 (tg 5) (tg 6)),
  ip 2 (pMov (tg 7))]
@[simp] def oc1_4_ap := ops_rule (c := oc1_4) rfl
def cc1_4 : SC := sSeq (sReg (seqI oc1_4)) sRet
@[simp] def cc1_4_ap := seq_rule (c := cc1_4) rfl
def cc1_5 : SC := sSeq cc1_3 cc1_4
@[simp] def cc1_5_ap := seq_rule (c := cc1_5) rfl
def cc1_6 : SC := sSeq (sReg (seqI oc1_1)) cc1_5
@[simp] def cc1_6_ap := seq_rule (c := cc1_6) rfl
def dc1 : DFn := ⟨cc1_6, 8, [.t 2]⟩
theorem dc1_ok : fnOf Tryz.prog 62 = some dc1 := by kernel_rfl
def oc2_1 : List IS := [ip 0 (pMov (cv (.slice none 0 0)))]
@[simp] def oc2_1_ap := ops_rule (c := oc2_1) rfl
def oc2_2 : List IS := [im 1 1 (mBslice 1 6 (rep 6 [.nilFunc]) [(0, 1, (cv (.func (.func 109) #[] #[]))), (1, 1, (cv (.func (.func 110) #[] #[]))), (2, 1, (cv (.func (.func 111) #[] #[]))), (3, 1, (cv (.func (.func 112) #[] #[]))), (4, 1, (cv (.func (.func 113) #[] #[]))), (5, 1, (cv (.func (.func 114) #[] #[])))]),
  ip 0 (pMov (tg 1))]
@[simp] def oc2_2_ap := ops_rule (c := oc2_2) rfl
def cc2_1 : SC := sSeq (sReg (seqI oc2_2)) sRet
@[simp] def cc2_1_ap := seq_rule (c := cc2_1) rfl
def cc2_2 : SC := sSeq (sReg (seqI oc2_1)) cc2_1
@[simp] def cc2_2_ap := seq_rule (c := cc2_2) rfl
def dc2 : DFn := ⟨cc2_2, 2, [.t 0]⟩
theorem dc2_ok : fnOf Tryz.prog 63 = some dc2 := by kernel_rfl
def oc3_1 : List IS := [ip 6 (pMov (cv (.bool false)))]
@[simp] def oc3_1_ap := ops_rule (c := oc3_1) rfl
def oc3_2 : List IS := [ip 10 (pMov (tg 0)),
  ip 11 (pLen (tg 10)),
  ip 12 (pMov (tg 1)),
  ip 13 (pLen (tg 12)),
  ip 14 (pBin .neq (tg 11) (tg 13))]
@[simp] def oc3_2_ap := ops_rule (c := oc3_2) rfl
def oc3_3 : List IS := [ip 6 (pMov (cv (.bool false)))]
@[simp] def oc3_3_ap := ops_rule (c := oc3_3) rfl
def cc3_1 : SC := sSeq (sReg (seqI oc3_3)) sRet
@[simp] def cc3_1_ap := seq_rule (c := cc3_1) rfl
def cc3_2 : SC := sCond (tg 14) cc3_1 sSkip
@[simp] def cc3_2_ap := cond_rule (c := cc3_2) rfl
def cc3_3 : SC := sSeq (sReg (seqI oc3_2)) cc3_2
@[simp] def cc3_3_ap := seq_rule (c := cc3_3) rfl
def oc3_4 : List IS := [ip 15 (pMov (tg 0)),
  ip 16 (pLen (tg 15)),
  ip 17 (pMov (cv (.int .i64 0)))]
@[simp] def oc3_4_ap := ops_rule (c := oc3_4) rfl
def oc3_5 : List IS := [ip 18 (pBin .lss (tg 17) (tg 16))]
@[simp] def oc3_5_ap := ops_rule (c := oc3_5) rfl
def cc3_4 : SC := sCond (tg 18) sSkip (sExit 0)
@[simp] def cc3_4_ap := cond_rule (c := cc3_4) rfl
def oc3_6 : List IS := [ip 19 (pMov (tg 17)),
  ip 20 (pIaddrS 2 (tg 15) (tg 17)),
  il 21 (tg 20) (mLoadN 2 (tg 20)),
  im 1 8 (mAlloc [(.int .i64 0), (.slice none 0 0)]),
  ip 7 (pMov (tg 19)),
  im0 3 (mStore 2 (tg 8) (tg 21))]
@[simp] def oc3_6_ap := ops_rule (c := oc3_6) rfl
def oc3_7 : List IS := [ip 22 (pMov (tg 1)),
  ip 23 (pMov (tg 7)),
  ip 24 (pIaddrS 2 (tg 22) (tg 23)),
  il 25 (tg 24) (mLoadN 2 (tg 24)),
  im 1 9 (mAlloc [(.int .i64 0), (.slice none 0 0)]),
  im0 3 (mStore 2 (tg 9) (tg 25))]
@[simp] def oc3_7_ap := ops_rule (c := oc3_7) rfl
def oc3_8 : List IS := [ip 26 (pMov (tg 2)),
  il 27 (tg 8) (mLoadN 2 (tg 8)),
  il 28 (tg 9) (mLoadN 2 (tg 9)),
  im 3 29 (mCallv (tg 26) [(tg 27), (tg 28)]),
  ip 30 (pUn .not (tg 29))]
@[simp] def oc3_8_ap := ops_rule (c := oc3_8) rfl
def oc3_9 : List IS := [ip 6 (pMov (cv (.bool false)))]
@[simp] def oc3_9_ap := ops_rule (c := oc3_9) rfl
def cc3_5 : SC := sSeq (sReg (seqI oc3_9)) sRet
@[simp] def cc3_5_ap := seq_rule (c := cc3_5) rfl
def cc3_6 : SC := sCond (tg 30) cc3_5 sSkip
@[simp] def cc3_6_ap := cond_rule (c := cc3_6) rfl
def cc3_7 : SC := sSeq (sReg (seqI oc3_8)) cc3_6
@[simp] def cc3_7_ap := seq_rule (c := cc3_7) rfl
def cc3_8 : SC := sSeq (sReg (seqI oc3_7)) cc3_7
@[simp] def cc3_8_ap := seq_rule (c := cc3_8) rfl
def cc3_9 : SC := sSeq (sReg (seqI oc3_6)) cc3_8
@[simp] def cc3_9_ap := seq_rule (c := cc3_9) rfl
def cc3_10 : SC := sBlock 1 cc3_9
@[simp] def cc3_10_ap := block_rule (c := cc3_10) rfl
def oc3_10 : List IS := [ip 31 (pBin .add (tg 17) (cv (.int .i64 1))),
  ip 17 (pMov (tg 31))]
@[simp] def oc3_10_ap := ops_rule (c := oc3_10) rfl
def cc3_11 : SC := sSeq cc3_10 (sReg (seqI oc3_10))
@[simp] def cc3_11_ap := seq_rule (c := cc3_11) rfl
def cc3_12 : SC := sSeq cc3_4 cc3_11
@[simp] def cc3_12_ap := seq_rule (c := cc3_12) rfl
def cc3_13 : SC := sSeq (sReg (seqI oc3_5)) cc3_12
@[simp] def cc3_13_ap := seq_rule (c := cc3_13) rfl
def cc3_14 : SC := sLoop cc3_13
def cc3_15 : SC := sBlock 0 cc3_14
@[simp] def cc3_15_ap := block_rule (c := cc3_15) rfl
def cc3_16 : SC := sSeq (sReg (seqI oc3_4)) cc3_15
@[simp] def cc3_16_ap := seq_rule (c := cc3_16) rfl
def oc3_11 : List IS := [ip 6 (pMov (cv (.bool true)))]
@[simp] def oc3_11_ap := ops_rule (c := oc3_11) rfl
def cc3_17 : SC := sSeq (sReg (seqI oc3_11)) sRet
@[simp] def cc3_17_ap := seq_rule (c := cc3_17) rfl
def cc3_18 : SC := sSeq cc3_16 cc3_17
@[simp] def cc3_18_ap := seq_rule (c := cc3_18) rfl
def cc3_19 : SC := sSeq cc3_3 cc3_18
@[simp] def cc3_19_ap := seq_rule (c := cc3_19) rfl
def cc3_20 : SC := sSeq (sReg (seqI oc3_1)) cc3_19
@[simp] def cc3_20_ap := seq_rule (c := cc3_20) rfl
def dc3 : DFn := ⟨cc3_20, 32, [.t 6]⟩
theorem dc3_ok : fnOf Tryz.prog 64 = some dc3 := by kernel_rfl
def oc6 : List IS := [im 1 2 (mBox (tg 0)),
  im 1 3 (mBox (tg 1)),
  ip 4 (pMov (cv (.bool false)))]
@[simp] def oc6_ap := ops_rule (c := oc6) rfl
def oc4_2 : List IS := [ip 5 (pFaddr 1 (tg 2)),
  il 6 (tg 5) (mLoad1 (tg 5)),
  ip 7 (pFaddr 1 (tg 3)),
  il 8 (tg 7) (mLoad1 (tg 7)),
  im 3 9 (mCall 66 [(tg 6), (tg 8), (cv (.func (.func 67) #[] #[]))]),
  ip 4 (pMov (tg 9))]
@[simp] def oc4_2_ap := ops_rule (c := oc4_2) rfl
def cc6 : SC := sSeq (sReg (seqI oc4_2)) sRet
@[simp] def cc6_ap := seq_rule (c := cc6) rfl
def cc4_2 : SC := sSeq (sReg (seqI oc6)) cc6
@[simp] def cc4_2_ap := seq_rule (c := cc4_2) rfl
def dc4 : DFn := ⟨cc4_2, 10, [.t 4]⟩
theorem dc4_ok : fnOf Tryz.prog 65 = some dc4 := by kernel_rfl
def oc5_1 : List IS := [ip 6 (pMov (cv (.bool false)))]
@[simp] def oc5_1_ap := ops_rule (c := oc5_1) rfl
def oc5_2 : List IS := [ip 10 (pMov (tg 0)),
  ip 11 (pLen (tg 10)),
  ip 12 (pMov (tg 1)),
  ip 13 (pLen (tg 12)),
  ip 14 (pBin .neq (tg 11) (tg 13))]
@[simp] def oc5_2_ap := ops_rule (c := oc5_2) rfl
def oc5_3 : List IS := [ip 6 (pMov (cv (.bool false)))]
@[simp] def oc5_3_ap := ops_rule (c := oc5_3) rfl
def cc5_1 : SC := sSeq (sReg (seqI oc5_3)) sRet
@[simp] def cc5_1_ap := seq_rule (c := cc5_1) rfl
def cc5_2 : SC := sCond (tg 14) cc5_1 sSkip
@[simp] def cc5_2_ap := cond_rule (c := cc5_2) rfl
def cc5_3 : SC := sSeq (sReg (seqI oc5_2)) cc5_2
@[simp] def cc5_3_ap := seq_rule (c := cc5_3) rfl
def oc5_4 : List IS := [ip 15 (pMov (tg 0)),
  ip 16 (pLen (tg 15)),
  ip 17 (pMov (cv (.int .i64 0)))]
@[simp] def oc5_4_ap := ops_rule (c := oc5_4) rfl
def oc5_5 : List IS := [ip 18 (pBin .lss (tg 17) (tg 16))]
@[simp] def oc5_5_ap := ops_rule (c := oc5_5) rfl
def cc5_4 : SC := sCond (tg 18) sSkip (sExit 0)
@[simp] def cc5_4_ap := cond_rule (c := cc5_4) rfl
def oc5_6 : List IS := [ip 19 (pMov (tg 17)),
  ip 20 (pIaddrS 11 (tg 15) (tg 17)),
  il 21 (tg 20) (mLoadN 11 (tg 20)),
  im 1 8 (mAlloc [(.int .i64 0), (.int .i64 0), (.int .i64 0), (.int .i64 0), (.slice none 0 0), (.slice none 0 0), (.slice none 0 0), (.int .i64 0), (.int .i64 0), (.int .i64 0), (.int .i64 0)]),
  ip 7 (pMov (tg 19)),
  im0 3 (mStore 11 (tg 8) (tg 21))]
@[simp] def oc5_6_ap := ops_rule (c := oc5_6) rfl
def oc5_7 : List IS := [ip 22 (pMov (tg 1)),
  ip 23 (pMov (tg 7)),
  ip 24 (pIaddrS 11 (tg 22) (tg 23)),
  il 25 (tg 24) (mLoadN 11 (tg 24)),
  im 1 9 (mAlloc [(.int .i64 0), (.int .i64 0), (.int .i64 0), (.int .i64 0), (.slice none 0 0), (.slice none 0 0), (.slice none 0 0), (.int .i64 0), (.int .i64 0), (.int .i64 0), (.int .i64 0)]),
  im0 3 (mStore 11 (tg 9) (tg 25))]
@[simp] def oc5_7_ap := ops_rule (c := oc5_7) rfl
def oc5_8 : List IS := [ip 26 (pMov (tg 2)),
  il 27 (tg 8) (mLoadN 11 (tg 8)),
  il 28 (tg 9) (mLoadN 11 (tg 9)),
  im 3 29 (mCallv (tg 26) [(tg 27), (tg 28)]),
  ip 30 (pUn .not (tg 29))]
@[simp] def oc5_8_ap := ops_rule (c := oc5_8) rfl
def oc5_9 : List IS := [ip 6 (pMov (cv (.bool false)))]
@[simp] def oc5_9_ap := ops_rule (c := oc5_9) rfl
def cc5_5 : SC := sSeq (sReg (seqI oc5_9)) sRet
@[simp] def cc5_5_ap := seq_rule (c := cc5_5) rfl
def cc5_6 : SC := sCond (tg 30) cc5_5 sSkip
@[simp] def cc5_6_ap := cond_rule (c := cc5_6) rfl
def cc5_7 : SC := sSeq (sReg (seqI oc5_8)) cc5_6
@[simp] def cc5_7_ap := seq_rule (c := cc5_7) rfl
def cc5_8 : SC := sSeq (sReg (seqI oc5_7)) cc5_7
@[simp] def cc5_8_ap := seq_rule (c := cc5_8) rfl
def cc5_9 : SC := sSeq (sReg (seqI oc5_6)) cc5_8
@[simp] def cc5_9_ap := seq_rule (c := cc5_9) rfl
def cc5_10 : SC := sBlock 1 cc5_9
@[simp] def cc5_10_ap := block_rule (c := cc5_10) rfl
def oc5_10 : List IS := [ip 31 (pBin .add (tg 17) (cv (.int .i64 1))),
  ip 17 (pMov (tg 31))]
@[simp] def oc5_10_ap := ops_rule (c := oc5_10) rfl
def cc5_11 : SC := sSeq cc5_10 (sReg (seqI oc5_10))
@[simp] def cc5_11_ap := seq_rule (c := cc5_11) rfl
def cc5_12 : SC := sSeq cc5_4 cc5_11
@[simp] def cc5_12_ap := seq_rule (c := cc5_12) rfl
def cc5_13 : SC := sSeq (sReg (seqI oc5_5)) cc5_12
@[simp] def cc5_13_ap := seq_rule (c := cc5_13) rfl
def cc5_14 : SC := sLoop cc5_13
def cc5_15 : SC := sBlock 0 cc5_14
@[simp] def cc5_15_ap := block_rule (c := cc5_15) rfl
def cc5_16 : SC := sSeq (sReg (seqI oc5_4)) cc5_15
@[simp] def cc5_16_ap := seq_rule (c := cc5_16) rfl
def oc5_11 : List IS := [ip 6 (pMov (cv (.bool true)))]
@[simp] def oc5_11_ap := ops_rule (c := oc5_11) rfl
def cc5_17 : SC := sSeq (sReg (seqI oc5_11)) sRet
@[simp] def cc5_17_ap := seq_rule (c := cc5_17) rfl
def cc5_18 : SC := sSeq cc5_16 cc5_17
@[simp] def cc5_18_ap := seq_rule (c := cc5_18) rfl
def cc5_19 : SC := sSeq cc5_3 cc5_18
@[simp] def cc5_19_ap := seq_rule (c := cc5_19) rfl
def cc5_20 : SC := sSeq (sReg (seqI oc5_1)) cc5_19
@[simp] def cc5_20_ap := seq_rule (c := cc5_20) rfl
def dc5 : DFn := ⟨cc5_20, 32, [.t 6]⟩
theorem dc5_ok : fnOf Tryz.prog 66 = some dc5 := by kernel_rfl
def oc6_1 : List IS := [im 1 2 (mBox (tg 0)),
  im 1 3 (mBox (tg 1)),
  ip 4 (pMov (cv (.bool false)))]
@[simp] def oc6_1_ap := ops_rule (c := oc6_1) rfl
def oc6_2 : List IS := [ip 5 (pFaddr 0 (tg 2)),
  il 6 (tg 5) (mLoad1 (tg 5)),
  ip 7 (pFaddr 0 (tg 3)),
  il 8 (tg 7) (mLoad1 (tg 7)),
  ip 9 (pBin .eql (tg 6) (tg 8)),
  ip 10 (pMov (tg 9)),
  gd 10 true (some 11) (ip 11 (pFaddr 1 (tg 2))),
  gd 10 true (some 12) (il 12 (tg 11) (mLoad1 (tg 11))),
  gd 10 true (some 13) (ip 13 (pFaddr 1 (tg 3))),
  gd 10 true (some 14) (il 14 (tg 13) (mLoad1 (tg 13))),
  gd 10 true (some 15) (ip 15 (pBin .eql (tg 12) (tg 14))),
  ip 16 (pPick (tg 10) (tg 15) (cv (.bool false))),
  ip 17 (pMov (tg 16)),
  gd 17 true (some 18) (ip 18 (pFaddr 8 (tg 2))),
  gd 17 true (some 19) (il 19 (tg 18) (mLoad1 (tg 18))),
  gd 17 true (some 20) (ip 20 (pFaddr 8 (tg 3))),
  gd 17 true (some 21) (il 21 (tg 20) (mLoad1 (tg 20))),
  gd 17 true (some 22) (ip 22 (pBin .eql (tg 19) (tg 21))),
  ip 23 (pPick (tg 17) (tg 22) (cv (.bool false))),
  ip 24 (pMov (tg 23)),
  gd 24 true (some 25) (ip 25 (pFaddr 5 (tg 2))),
  gd 24 true (some 26) (il 26 (tg 25) (mLoad1 (tg 25))),
  gd 24 true (some 27) (ip 27 (pFaddr 5 (tg 3))),
  gd 24 true (some 28) (il 28 (tg 27) (mLoad1 (tg 27))),
  gd 24 true (some 29) (im 3 29 (mCall 68 [(tg 26), (tg 28)])),
  ip 30 (pPick (tg 24) (tg 29) (cv (.bool false))),
  ip 31 (pMov (tg 30)),
  gd 31 true (some 32) (ip 32 (pFaddr 6 (tg 2))),
  gd 31 true (some 33) (il 33 (tg 32) (mLoad1 (tg 32))),
  gd 31 true (some 34) (ip 34 (pFaddr 6 (tg 3))),
  gd 31 true (some 35) (il 35 (tg 34) (mLoad1 (tg 34))),
  gd 31 true (some 36) (im 3 36 (mCall 68 [(tg 33), (tg 35)])),
  ip 37 (pPick (tg 31) (tg 36) (cv (.bool false))),
  ip 38 (pMov (tg 37)),
  gd 38 true (some 39) (ip 39 (pFaddr 4 (tg 2))),
  gd 38 true (some 40) (il 40 (tg 39) (mLoad1 (tg 39))),
  gd 38 true (some 41) (ip 41 (pFaddr 4 (tg 3))),
  gd 38 true (some 42) (il 42 (tg 41) (mLoad1 (tg 41))),
  gd 38 true (some 43) (im 3 43 (mCall 68 [(tg 40), (tg 42)])),
  ip 44 (pPick (tg 38) (tg 43) (cv (.bool false))),
  ip 4 (pMov (tg 44))]
@[simp] def oc6_2_ap := ops_rule (c := oc6_2) rfl
def cc6_1 : SC := sSeq (sReg (seqI oc6_2)) sRet
@[simp] def cc6_1_ap := seq_rule (c := cc6_1) rfl
def cc6_2 : SC := sSeq (sReg (seqI oc6_1)) cc6_1
@[simp] def cc6_2_ap := seq_rule (c := cc6_2) rfl
def dc6 : DFn := ⟨cc6_2, 45, [.t 4]⟩
theorem dc6_ok : fnOf Tryz.prog 67 = some dc6 := by kernel_rfl
def oc7_1 : List IS := [ip 4 (pMov (cv (.bool false)))]
@[simp] def oc7_1_ap := ops_rule (c := oc7_1) rfl
def oc7_2 : List IS := [ip 6 (pMov (tg 0)),
  ip 7 (pLen (tg 6)),
  ip 8 (pMov (tg 1)),
  ip 9 (pLen (tg 8)),
  ip 10 (pBin .neq (tg 7) (tg 9))]
@[simp] def oc7_2_ap := ops_rule (c := oc7_2) rfl
def oc7_3 : List IS := [ip 4 (pMov (cv (.bool false)))]
@[simp] def oc7_3_ap := ops_rule (c := oc7_3) rfl
def cc7_1 : SC := sSeq (sReg (seqI oc7_3)) sRet
@[simp] def cc7_1_ap := seq_rule (c := cc7_1) rfl
def cc7_2 : SC := sCond (tg 10) cc7_1 sSkip
@[simp] def cc7_2_ap := cond_rule (c := cc7_2) rfl
def cc7_3 : SC := sSeq (sReg (seqI oc7_2)) cc7_2
@[simp] def cc7_3_ap := seq_rule (c := cc7_3) rfl
def oc7_4 : List IS := [ip 11 (pMov (tg 0)),
  ip 12 (pLen (tg 11)),
  ip 13 (pMov (cv (.int .i64 0)))]
@[simp] def oc7_4_ap := ops_rule (c := oc7_4) rfl
def oc7_5 : List IS := [ip 14 (pBin .lss (tg 13) (tg 12))]
@[simp] def oc7_5_ap := ops_rule (c := oc7_5) rfl
def cc7_4 : SC := sCond (tg 14) sSkip (sExit 0)
@[simp] def cc7_4_ap := cond_rule (c := cc7_4) rfl
def oc7_6 : List IS := [ip 15 (pMov (tg 13)),
  ip 5 (pMov (tg 15))]
@[simp] def oc7_6_ap := ops_rule (c := oc7_6) rfl
def oc7_7 : List DA := [⟨CI.pure (pMov (tg 0)), (some 16), none, 0, []⟩,
  ⟨CI.pure (pMov (tg 5)), (some 17), none, 1, []⟩,
  ⟨CI.pure (pIaddrS 4 (tg 16) (tg 17)), (some 18), none, 2, []⟩,
  ⟨CI.load (tg 18) (mLoadN 4 (tg 18)), (some 19), none, 3, []⟩,
  ⟨CI.pure (pMov (tg 1)), (some 20), none, 4, []⟩,
  ⟨CI.pure (pMov (tg 5)), (some 21), none, 5, []⟩,
  ⟨CI.pure (pIaddrS 4 (tg 20) (tg 21)), (some 22), none, 6, []⟩,
  ⟨CI.load (tg 22) (mLoadN 4 (tg 22)), (some 23), none, 7, []⟩,
  ⟨CI.pure (pEqF true [1, 1, 1, 1] (tg 19) (tg 23)), (some 24), none, 8, []⟩]
@[simp] def oc7_7_ap := das_rule (c := oc7_7) rfl
def oc7_8 : List IS := [ip 4 (pMov (cv (.bool false)))]
@[simp] def oc7_8_ap := ops_rule (c := oc7_8) rfl
def cc7_5 : SC := sSeq (sReg (seqI oc7_8)) sRet
@[simp] def cc7_5_ap := seq_rule (c := cc7_5) rfl
def cc7_6 : SC := sCond (tg 24) cc7_5 sSkip
@[simp] def cc7_6_ap := cond_rule (c := cc7_6) rfl
def cc7_7 : SC := sSeq (sAny oc7_7) cc7_6
@[simp] def cc7_7_ap := seq_rule (c := cc7_7) rfl
def cc7_8 : SC := sSeq (sReg (seqI oc7_6)) cc7_7
@[simp] def cc7_8_ap := seq_rule (c := cc7_8) rfl
def cc7_9 : SC := sBlock 1 cc7_8
@[simp] def cc7_9_ap := block_rule (c := cc7_9) rfl
def oc7_9 : List IS := [ip 25 (pBin .add (tg 13) (cv (.int .i64 1))),
  ip 13 (pMov (tg 25))]
@[simp] def oc7_9_ap := ops_rule (c := oc7_9) rfl
def cc7_10 : SC := sSeq cc7_9 (sReg (seqI oc7_9))
@[simp] def cc7_10_ap := seq_rule (c := cc7_10) rfl
def cc7_11 : SC := sSeq cc7_4 cc7_10
@[simp] def cc7_11_ap := seq_rule (c := cc7_11) rfl
def cc7_12 : SC := sSeq (sReg (seqI oc7_5)) cc7_11
@[simp] def cc7_12_ap := seq_rule (c := cc7_12) rfl
def cc7_13 : SC := sLoop cc7_12
def cc7_14 : SC := sBlock 0 cc7_13
@[simp] def cc7_14_ap := block_rule (c := cc7_14) rfl
def cc7_15 : SC := sSeq (sReg (seqI oc7_4)) cc7_14
@[simp] def cc7_15_ap := seq_rule (c := cc7_15) rfl
def oc7_10 : List IS := [ip 4 (pMov (cv (.bool true)))]
@[simp] def oc7_10_ap := ops_rule (c := oc7_10) rfl
def cc7_16 : SC := sSeq (sReg (seqI oc7_10)) sRet
@[simp] def cc7_16_ap := seq_rule (c := cc7_16) rfl
def cc7_17 : SC := sSeq cc7_15 cc7_16
@[simp] def cc7_17_ap := seq_rule (c := cc7_17) rfl
def cc7_18 : SC := sSeq cc7_3 cc7_17
@[simp] def cc7_18_ap := seq_rule (c := cc7_18) rfl
def cc7_19 : SC := sSeq (sReg (seqI oc7_1)) cc7_18
@[simp] def cc7_19_ap := seq_rule (c := cc7_19) rfl
def dc7 : DFn := ⟨cc7_19, 26, [.t 4]⟩
theorem dc7_ok : fnOf Tryz.prog 68 = some dc7 := by kernel_rfl
def oc8_1 : List IS := [ip 4 (pMov (cv (.bool false)))]
@[simp] def oc8_1_ap := ops_rule (c := oc8_1) rfl
def oc8_2 : List IS := [ip 5 (pMov (tg 0))]
@[simp] def oc8_2_ap := ops_rule (c := oc8_2) rfl
def oc8_3 : List IS := [ip 7 (pBin .eql (tg 5) (cv (.int .i64 2))),
  ip 6 (pMov (tg 7))]
@[simp] def oc8_3_ap := ops_rule (c := oc8_3) rfl
def oc8_4 : List IS := [ip 8 (pMov (tg 1)),
  ip 9 (pBin .eql (tg 8) (cv (.int .i64 1))),
  ip 10 (pMov (tg 9)),
  gd 10 false (some 11) (ip 11 (pMov (tg 1))),
  gd 10 false (some 12) (ip 12 (pBin .eql (tg 11) (cv (.int .i64 2)))),
  ip 13 (pPick (tg 10) (cv (.bool true)) (tg 12)),
  ip 14 (pMov (tg 13)),
  gd 14 false (some 15) (ip 15 (pMov (tg 1))),
  gd 14 false (some 16) (ip 16 (pBin .eql (tg 15) (cv (.int .i64 5)))),
  ip 17 (pPick (tg 14) (cv (.bool true)) (tg 16)),
  ip 4 (pMov (tg 17))]
@[simp] def oc8_4_ap := ops_rule (c := oc8_4) rfl
def cc8_1 : SC := sSeq (sReg (seqI oc8_4)) sRet
@[simp] def cc8_1_ap := seq_rule (c := cc8_1) rfl
def oc8_5 : List IS := [ip 19 (pBin .eql (tg 5) (cv (.int .i64 3))),
  ip 18 (pMov (tg 19))]
@[simp] def oc8_5_ap := ops_rule (c := oc8_5) rfl
def oc8_6 : List IS := [ip 20 (pMov (tg 1)),
  ip 21 (pBin .eql (tg 20) (cv (.int .i64 1))),
  ip 22 (pMov (tg 21)),
  gd 22 false (some 23) (ip 23 (pMov (tg 1))),
  gd 22 false (some 24) (ip 24 (pBin .eql (tg 23) (cv (.int .i64 3)))),
  ip 25 (pPick (tg 22) (cv (.bool true)) (tg 24)),
  ip 26 (pMov (tg 25)),
  gd 26 false (some 27) (ip 27 (pMov (tg 1))),
  gd 26 false (some 28) (ip 28 (pBin .eql (tg 27) (cv (.int .i64 5)))),
  ip 29 (pPick (tg 26) (cv (.bool true)) (tg 28)),
  ip 4 (pMov (tg 29))]
@[simp] def oc8_6_ap := ops_rule (c := oc8_6) rfl
def cc8_2 : SC := sSeq (sReg (seqI oc8_6)) sRet
@[simp] def cc8_2_ap := seq_rule (c := cc8_2) rfl
def oc8_7 : List IS := [ip 31 (pBin .eql (tg 5) (cv (.int .i64 4))),
  ip 30 (pMov (tg 31))]
@[simp] def oc8_7_ap := ops_rule (c := oc8_7) rfl
def oc8_8 : List IS := [ip 32 (pBin .eql (tg 5) (cv (.int .i64 5))),
  ip 30 (pMov (tg 32))]
@[simp] def oc8_8_ap := ops_rule (c := oc8_8) rfl
def oc8_9 : List IS := [ip 33 (pBin .eql (tg 5) (cv (.int .i64 6))),
  ip 30 (pMov (tg 33))]
@[simp] def oc8_9_ap := ops_rule (c := oc8_9) rfl
def cc8_3 : SC := sCond (tg 30) sSkip (sReg (seqI oc8_9))
@[simp] def cc8_3_ap := cond_rule (c := cc8_3) rfl
def cc8_4 : SC := sSeq (sReg (seqI oc8_8)) cc8_3
@[simp] def cc8_4_ap := seq_rule (c := cc8_4) rfl
def cc8_5 : SC := sCond (tg 30) sSkip cc8_4
@[simp] def cc8_5_ap := cond_rule (c := cc8_5) rfl
def cc8_6 : SC := sSeq (sReg (seqI oc8_7)) cc8_5
@[simp] def cc8_6_ap := seq_rule (c := cc8_6) rfl
def oc8_10 : List IS := [ip 34 (pMov (tg 1)),
  ip 35 (pBin .geq (tg 34) (cv (.int .i64 1))),
  ip 36 (pMov (tg 35)),
  gd 36 true (some 37) (ip 37 (pMov (tg 1))),
  gd 36 true (some 38) (ip 38 (pBin .leq (tg 37) (cv (.int .i64 5)))),
  ip 39 (pPick (tg 36) (tg 38) (cv (.bool false))),
  ip 4 (pMov (tg 39))]
@[simp] def oc8_10_ap := ops_rule (c := oc8_10) rfl
def cc8_7 : SC := sSeq (sReg (seqI oc8_10)) sRet
@[simp] def cc8_7_ap := seq_rule (c := cc8_7) rfl
def oc8_11 : List IS := [ip 41 (pBin .eql (tg 5) (cv (.int .i64 7))),
  ip 40 (pMov (tg 41))]
@[simp] def oc8_11_ap := ops_rule (c := oc8_11) rfl
def oc8_12 : List IS := [ip 42 (pMov (tg 1)),
  ip 43 (pBin .geq (tg 42) (cv (.int .i64 2))),
  ip 44 (pMov (tg 43)),
  gd 44 true (some 45) (ip 45 (pMov (tg 1))),
  gd 44 true (some 46) (ip 46 (pBin .leq (tg 45) (cv (.int .i64 5)))),
  ip 47 (pPick (tg 44) (tg 46) (cv (.bool false))),
  ip 4 (pMov (tg 47))]
@[simp] def oc8_12_ap := ops_rule (c := oc8_12) rfl
def cc8_8 : SC := sSeq (sReg (seqI oc8_12)) sRet
@[simp] def cc8_8_ap := seq_rule (c := cc8_8) rfl
def cc8_9 : SC := sCond (tg 40) cc8_8 sSkip
@[simp] def cc8_9_ap := cond_rule (c := cc8_9) rfl
def cc8_10 : SC := sSeq (sReg (seqI oc8_11)) cc8_9
@[simp] def cc8_10_ap := seq_rule (c := cc8_10) rfl
def cc8_11 : SC := sCond (tg 30) cc8_7 cc8_10
@[simp] def cc8_11_ap := cond_rule (c := cc8_11) rfl
def cc8_12 : SC := sSeq cc8_6 cc8_11
@[simp] def cc8_12_ap := seq_rule (c := cc8_12) rfl
def cc8_13 : SC := sCond (tg 18) cc8_2 cc8_12
@[simp] def cc8_13_ap := cond_rule (c := cc8_13) rfl
def cc8_14 : SC := sSeq (sReg (seqI oc8_5)) cc8_13
@[simp] def cc8_14_ap := seq_rule (c := cc8_14) rfl
def cc8_15 : SC := sCond (tg 6) cc8_1 cc8_14
@[simp] def cc8_15_ap := cond_rule (c := cc8_15) rfl
def cc8_16 : SC := sSeq (sReg (seqI oc8_3)) cc8_15
@[simp] def cc8_16_ap := seq_rule (c := cc8_16) rfl
def cc8_17 : SC := sBlock 0 cc8_16
@[simp] def cc8_17_ap := block_rule (c := cc8_17) rfl
def cc8_18 : SC := sSeq (sReg (seqI oc8_2)) cc8_17
@[simp] def cc8_18_ap := seq_rule (c := cc8_18) rfl
def oc8_13 : List IS := [ip 48 (pMov (tg 1)),
  ip 49 (pBin .eql (tg 48) (cv (.int .i64 0))),
  ip 4 (pMov (tg 49))]
@[simp] def oc8_13_ap := ops_rule (c := oc8_13) rfl
def cc8_19 : SC := sSeq (sReg (seqI oc8_13)) sRet
@[simp] def cc8_19_ap := seq_rule (c := cc8_19) rfl
def cc8_20 : SC := sSeq cc8_18 cc8_19
@[simp] def cc8_20_ap := seq_rule (c := cc8_20) rfl
def cc8_21 : SC := sSeq (sReg (seqI oc8_1)) cc8_20
@[simp] def cc8_21_ap := seq_rule (c := cc8_21) rfl
def dc8 : DFn := ⟨cc8_21, 50, [.t 4]⟩
theorem dc8_ok : fnOf Tryz.prog 69 = some dc8 := by kernel_rfl
def oc9_1 : List IS := [ip 2 (pMov (cv (.bool false)))]
@[simp] def oc9_1_ap := ops_rule (c := oc9_1) rfl
def oc9_2 : List IS := [ip 3 (pMov (tg 0)),
  ip 4 (pBin .eql (tg 3) (cv (.int .i64 1))),
  ip 5 (pMov (tg 4)),
  gd 5 false (some 6) (ip 6 (pMov (tg 0))),
  gd 5 false (some 7) (ip 7 (pBin .eql (tg 6) (cv (.int .i64 2)))),
  ip 8 (pPick (tg 5) (cv (.bool true)) (tg 7)),
  ip 9 (pMov (tg 8)),
  gd 9 false (some 10) (ip 10 (pMov (tg 0))),
  gd 9 false (some 11) (ip 11 (pBin .eql (tg 10) (cv (.int .i64 4)))),
  ip 12 (pPick (tg 9) (cv (.bool true)) (tg 11)),
  ip 13 (pMov (tg 12)),
  gd 13 false (some 14) (ip 14 (pMov (tg 0))),
  gd 13 false (some 15) (ip 15 (pBin .eql (tg 14) (cv (.int .i64 5)))),
  ip 16 (pPick (tg 13) (cv (.bool true)) (tg 15)),
  ip 17 (pMov (tg 16)),
  gd 17 false (some 18) (ip 18 (pMov (tg 0))),
  gd 17 false (some 19) (ip 19 (pBin .eql (tg 18) (cv (.int .i64 6)))),
  ip 20 (pPick (tg 17) (cv (.bool true)) (tg 19)),
  ip 2 (pMov (tg 20))]
@[simp] def oc9_2_ap := ops_rule (c := oc9_2) rfl
def cc9_1 : SC := sSeq (sReg (seqI oc9_2)) sRet
@[simp] def cc9_1_ap := seq_rule (c := cc9_1) rfl
def cc9_2 : SC := sSeq (sReg (seqI oc9_1)) cc9_1
@[simp] def cc9_2_ap := seq_rule (c := cc9_2) rfl
def dc9 : DFn := ⟨cc9_2, 21, [.t 2]⟩
theorem dc9_ok : fnOf Tryz.prog 70 = some dc9 := by kernel_rfl
def od0_1 : List IS := [ip 2 (pMov (cv (.bool false)))]
@[simp] def od0_1_ap := ops_rule (c := od0_1) rfl
def od0_2 : List IS := [ip 3 (pMov (tg 0)),
  ip 4 (pBin .eql (tg 3) (cv (.int .i64 2))),
  ip 5 (pMov (tg 4)),
  gd 5 false (some 6) (ip 6 (pMov (tg 0))),
  gd 5 false (some 7) (ip 7 (pBin .eql (tg 6) (cv (.int .i64 3)))),
  ip 8 (pPick (tg 5) (cv (.bool true)) (tg 7)),
  ip 9 (pMov (tg 8)),
  gd 9 false (some 10) (ip 10 (pMov (tg 0))),
  gd 9 false (some 11) (ip 11 (pBin .eql (tg 10) (cv (.int .i64 4)))),
  ip 12 (pPick (tg 9) (cv (.bool true)) (tg 11)),
  ip 13 (pMov (tg 12)),
  gd 13 false (some 14) (ip 14 (pMov (tg 0))),
  gd 13 false (some 15) (ip 15 (pBin .eql (tg 14) (cv (.int .i64 5)))),
  ip 16 (pPick (tg 13) (cv (.bool true)) (tg 15)),
  ip 17 (pMov (tg 16)),
  gd 17 false (some 18) (ip 18 (pMov (tg 0))),
  gd 17 false (some 19) (ip 19 (pBin .eql (tg 18) (cv (.int .i64 6)))),
  ip 20 (pPick (tg 17) (cv (.bool true)) (tg 19)),
  ip 2 (pMov (tg 20))]
@[simp] def od0_2_ap := ops_rule (c := od0_2) rfl
def cd0_1 : SC := sSeq (sReg (seqI od0_2)) sRet
@[simp] def cd0_1_ap := seq_rule (c := cd0_1) rfl
def cd0_2 : SC := sSeq (sReg (seqI od0_1)) cd0_1
@[simp] def cd0_2_ap := seq_rule (c := cd0_2) rfl
def dd0 : DFn := ⟨cd0_2, 21, [.t 2]⟩
theorem dd0_ok : fnOf Tryz.prog 71 = some dd0 := by kernel_rfl
def od1_1 : List IS := [ip 2 (pMov (cv (.bool false)))]
@[simp] def od1_1_ap := ops_rule (c := od1_1) rfl
def od1_2 : List IS := [ip 3 (pMov (cv (.int .i64 1)))]
@[simp] def od1_2_ap := ops_rule (c := od1_2) rfl
def od1_3 : List IS := [ip 4 (pMov (tg 3)),
  ip 5 (pBin .leq (tg 4) (cv (.int .i64 1024)))]
@[simp] def od1_3_ap := ops_rule (c := od1_3) rfl
def cd1_1 : SC := sCond (tg 5) sSkip (sExit 0)
@[simp] def cd1_1_ap := cond_rule (c := cd1_1) rfl
def cd1_2 : SC := sSeq (sReg (seqI od1_3)) cd1_1
@[simp] def cd1_2_ap := seq_rule (c := cd1_2) rfl
def od1_4 : List IS := [ip 8 (pMov (tg 3)),
  ip 9 (pMov (tg 0)),
  ip 10 (pBin .eql (tg 8) (tg 9))]
@[simp] def od1_4_ap := ops_rule (c := od1_4) rfl
def od1_5 : List IS := [ip 2 (pMov (cv (.bool true)))]
@[simp] def od1_5_ap := ops_rule (c := od1_5) rfl
def cd1_3 : SC := sSeq (sReg (seqI od1_5)) sRet
@[simp] def cd1_3_ap := seq_rule (c := cd1_3) rfl
def cd1_4 : SC := sCond (tg 10) cd1_3 sSkip
@[simp] def cd1_4_ap := cond_rule (c := cd1_4) rfl
def cd1_5 : SC := sSeq (sReg (seqI od1_4)) cd1_4
@[simp] def cd1_5_ap := seq_rule (c := cd1_5) rfl
def cd1_6 : SC := sBlock 1 cd1_5
@[simp] def cd1_6_ap := block_rule (c := cd1_6) rfl
def od1_6 : List IS := [ip 6 (pMov (tg 3)),
  ip 7 (pBin .mul (tg 6) (cv (.int .i64 2))),
  ip 3 (pMov (tg 7))]
@[simp] def od1_6_ap := ops_rule (c := od1_6) rfl
def cd1_7 : SC := sSeq cd1_6 (sReg (seqI od1_6))
@[simp] def cd1_7_ap := seq_rule (c := cd1_7) rfl
def cd1_8 : SC := sSeq cd1_2 cd1_7
@[simp] def cd1_8_ap := seq_rule (c := cd1_8) rfl
def cd1_9 : SC := sLoop cd1_8
def cd1_10 : SC := sBlock 0 cd1_9
@[simp] def cd1_10_ap := block_rule (c := cd1_10) rfl
def cd1_11 : SC := sSeq (sReg (seqI od1_2)) cd1_10
@[simp] def cd1_11_ap := seq_rule (c := cd1_11) rfl
def od1_7 : List IS := [ip 2 (pMov (cv (.bool false)))]
@[simp] def od1_7_ap := ops_rule (c := od1_7) rfl
def cd1_12 : SC := sSeq (sReg (seqI od1_7)) sRet
@[simp] def cd1_12_ap := seq_rule (c := cd1_12) rfl
def cd1_13 : SC := sSeq cd1_11 cd1_12
@[simp] def cd1_13_ap := seq_rule (c := cd1_13) rfl
def cd1_14 : SC := sSeq (sReg (seqI od1_1)) cd1_13
@[simp] def cd1_14_ap := seq_rule (c := cd1_14) rfl
def dd1 : DFn := ⟨cd1_14, 11, [.t 2]⟩
theorem dd1_ok : fnOf Tryz.prog 72 = some dd1 := by kernel_rfl
def oe1_1 : List IS := [ip 4 (pMov (tg 0)),
  ip 5 (pNilck (tg 4)),
  ip 6 (pFaddr 0 (tg 5)),
  il 7 (tg 6) (mLoad1 (tg 6)),
  ip 8 (pLen (tg 7)),
  ip 9 (pMov (cv (.int .i64 0)))]
@[simp] def oe1_1_ap := ops_rule (c := oe1_1) rfl
def oe1_2 : List IS := [ip 10 (pBin .lss (tg 9) (tg 8))]
@[simp] def oe1_2_ap := ops_rule (c := oe1_2) rfl
def ce1_1 : SC := sCond (tg 10) sSkip (sExit 0)
@[simp] def ce1_1_ap := cond_rule (c := ce1_1) rfl
def oe1_3 : List IS := [ip 11 (pMov (tg 9)),
  ip 12 (pIaddrS 11 (tg 7) (tg 9)),
  il 13 (tg 12) (mLoadN 11 (tg 12)),
  im 1 3 (mAlloc [(.int .i64 0), (.int .i64 0), (.int .i64 0), (.int .i64 0), (.slice none 0 0), (.slice none 0 0), (.slice none 0 0), (.int .i64 0), (.int .i64 0), (.int .i64 0), (.int .i64 0)]),
  ip 2 (pMov (tg 11)),
  im0 3 (mStore 11 (tg 3) (tg 13))]
@[simp] def oe1_3_ap := ops_rule (c := oe1_3) rfl
def oe1_4 : List DA := [⟨CI.pure (pMov (tg 0)), (some 14), none, 0, []⟩,
  ⟨CI.pure (pNilck (tg 14)), (some 15), none, 1, []⟩,
  ⟨CI.pure (pFaddr 0 (tg 15)), (some 16), none, 2, []⟩,
  ⟨CI.load (tg 16) (mLoad1 (tg 16)), (some 17), none, 3, []⟩,
  ⟨CI.pure (pMov (tg 2)), (some 18), none, 4, []⟩,
  ⟨CI.pure (pMov (tg 0)), (some 19), none, 5, []⟩,
  ⟨CI.pure (pNilck (tg 19)), (some 20), none, 6, []⟩,
  ⟨CI.pure (pFaddr 0 (tg 20)), (some 21), none, 7, []⟩,
  ⟨CI.load (tg 21) (mLoad1 (tg 21)), (some 22), none, 8, []⟩,
  ⟨CI.pure (pMov (tg 2)), (some 23), none, 9, []⟩,
  ⟨CI.pure (pMov (tg 0)), (some 24), none, 10, []⟩,
  ⟨CI.pure (pNilck (tg 24)), (some 25), none, 11, []⟩,
  ⟨CI.pure (pFaddr 0 (tg 25)), (some 26), none, 12, []⟩,
  ⟨CI.load (tg 26) (mLoad1 (tg 26)), (some 27), none, 13, []⟩,
  ⟨CI.pure (pMov (tg 2)), (some 28), none, 14, []⟩,
  ⟨CI.pure (pFaddr 5 (tg 3)), (some 29), none, 15, []⟩,
  ⟨CI.load (tg 29) (mLoad1 (tg 29)), (some 30), none, 16, []⟩,
  ⟨CI.mem 3 (mCall 27 [(tg 30)]), (some 31), none, 17, [3, 8, 13]⟩,
  ⟨CI.pure (pFaddr 6 (tg 3)), (some 32), none, 18, []⟩,
  ⟨CI.load (tg 32) (mLoad1 (tg 32)), (some 33), none, 19, [17]⟩,
  ⟨CI.mem 3 (mCall 27 [(tg 33)]), (some 34), none, 20, [3, 8, 13]⟩,
  ⟨CI.pure (pFaddr 4 (tg 3)), (some 35), none, 21, []⟩,
  ⟨CI.load (tg 35) (mLoad1 (tg 35)), (some 36), none, 22, [17, 20]⟩,
  ⟨CI.mem 3 (mCall 27 [(tg 36)]), (some 37), none, 23, [3, 8, 13]⟩,
  ⟨CI.pure (pIaddrS 11 (tg 17) (tg 18)), (some 38), none, 24, []⟩,
  ⟨CI.pure (pFaddr 5 (tg 38)), (some 39), none, 25, []⟩,
  ⟨CI.mem 3 (mStore 1 (tg 39) (tg 31)), none, none, 26, []⟩,
  ⟨CI.pure (pIaddrS 11 (tg 22) (tg 23)), (some 40), none, 27, []⟩,
  ⟨CI.pure (pFaddr 6 (tg 40)), (some 41), none, 28, []⟩,
  ⟨CI.mem 3 (mStore 1 (tg 41) (tg 34)), none, none, 29, []⟩,
  ⟨CI.pure (pIaddrS 11 (tg 27) (tg 28)), (some 42), none, 30, []⟩,
  ⟨CI.pure (pFaddr 4 (tg 42)), (some 43), none, 31, []⟩,
  ⟨CI.mem 3 (mStore 1 (tg 43) (tg 37)), none, none, 32, []⟩]
@[simp] def oe1_4_ap := das_rule (c := oe1_4) rfl
def ce1_2 : SC := sSeq (sReg (seqI oe1_3)) (sAny oe1_4)
@[simp] def ce1_2_ap := seq_rule (c := ce1_2) rfl
def ce1_3 : SC := sBlock 1 ce1_2
@[simp] def ce1_3_ap := block_rule (c := ce1_3) rfl
def oe1_5 : List IS := [ip 44 (pBin .add (tg 9) (cv (.int .i64 1))),
  ip 9 (pMov (tg 44))]
@[simp] def oe1_5_ap := ops_rule (c := oe1_5) rfl
def ce1_4 : SC := sSeq ce1_3 (sReg (seqI oe1_5))
@[simp] def ce1_4_ap := seq_rule (c := ce1_4) rfl
def ce1_5 : SC := sSeq ce1_1 ce1_4
@[simp] def ce1_5_ap := seq_rule (c := ce1_5) rfl
def ce1_6 : SC := sSeq (sReg (seqI oe1_2)) ce1_5
@[simp] def ce1_6_ap := seq_rule (c := ce1_6) rfl
def ce1_7 : SC := sLoop ce1_6
def ce1_8 : SC := sBlock 0 ce1_7
@[simp] def ce1_8_ap := block_rule (c := ce1_8) rfl
def ce1_9 : SC := sSeq (sReg (seqI oe1_1)) ce1_8
@[simp] def ce1_9_ap := seq_rule (c := ce1_9) rfl
def de1 : DFn := ⟨ce1_9, 45, []⟩
theorem de1_ok : fnOf Tryz.prog 109 = some de1 := by kernel_rfl
def of0 : List IS := [im 1 1 (mBox (tg 0))]
@[simp] def of0_ap := ops_rule (c := of0) rfl
def oe2_2 : List IS := [ip 5 (pMkfn 164 [] [(tg 1)]),
  ip 2 (pMov (tg 5))]
@[simp] def oe2_2_ap := ops_rule (c := oe2_2) rfl
def oe2_3 : List IS := [il 6 (tg 1) (mLoad1 (tg 1)),
  ip 7 (pNilck (tg 6)),
  ip 8 (pFaddr 0 (tg 7)),
  il 9 (tg 8) (mLoad1 (tg 8)),
  ip 10 (pLen (tg 9)),
  ip 11 (pMov (cv (.int .i64 0)))]
@[simp] def oe2_3_ap := ops_rule (c := oe2_3) rfl
def oe2_4 : List IS := [ip 12 (pBin .lss (tg 11) (tg 10))]
@[simp] def oe2_4_ap := ops_rule (c := oe2_4) rfl
def cf0 : SC := sCond (tg 12) sSkip (sExit 0)
@[simp] def cf0_ap := cond_rule (c := cf0) rfl
def oe2_5 : List IS := [ip 13 (pMov (tg 11)),
  ip 14 (pIaddrS 11 (tg 9) (tg 11)),
  il 15 (tg 14) (mLoadN 11 (tg 14)),
  im 1 4 (mAlloc [(.int .i64 0), (.int .i64 0), (.int .i64 0), (.int .i64 0), (.slice none 0 0), (.slice none 0 0), (.slice none 0 0), (.int .i64 0), (.int .i64 0), (.int .i64 0), (.int .i64 0)]),
  ip 3 (pMov (tg 13)),
  im0 3 (mStore 11 (tg 4) (tg 15))]
@[simp] def oe2_5_ap := ops_rule (c := oe2_5) rfl
def oe2_6 : List IS := [ip 16 (pMov (tg 2)),
  ip 17 (pMov (tg 3)),
  im 3 18 (mCallv (tg 16) [(tg 17)]),
  ip 19 (pMov (tg 18)),
  gd 19 true (some 20) (ip 20 (pFaddr 5 (tg 4))),
  gd 19 true (some 21) (il 21 (tg 20) (mLoad1 (tg 20))),
  gd 19 true (some 22) (ip 22 (pIaddrS 4 (tg 21) (cv (.int .i64 0)))),
  gd 19 true (some 23) (ip 23 (pFaddr 1 (tg 22))),
  gd 19 true (some 24) (il 24 (tg 23) (mLoad1 (tg 23))),
  gd 19 true (some 25) (ip 25 (pBin .eql (tg 24) (cv (.int .u64 0)))),
  ip 26 (pPick (tg 19) (tg 25) (cv (.bool false)))]
@[simp] def oe2_6_ap := ops_rule (c := oe2_6) rfl
def oe2_7 : List DA := [⟨CI.load (tg 1) (mLoad1 (tg 1)), (some 27), none, 0, []⟩,
  ⟨CI.pure (pNilck (tg 27)), (some 28), none, 1, []⟩,
  ⟨CI.pure (pFaddr 0 (tg 28)), (some 29), none, 2, []⟩,
  ⟨CI.load (tg 29) (mLoad1 (tg 29)), (some 30), none, 3, []⟩,
  ⟨CI.pure (pMov (tg 3)), (some 31), none, 4, []⟩,
  ⟨CI.pure (pFaddr 8 (tg 4)), (some 32), none, 5, []⟩,
  ⟨CI.load (tg 32) (mLoad1 (tg 32)), (some 33), none, 6, []⟩,
  ⟨CI.pure (pFaddr 9 (tg 4)), (some 34), none, 7, []⟩,
  ⟨CI.load (tg 34) (mLoad1 (tg 34)), (some 35), none, 8, []⟩,
  ⟨CI.pure (pFaddr 10 (tg 4)), (some 36), none, 9, []⟩,
  ⟨CI.load (tg 36) (mLoad1 (tg 36)), (some 37), none, 10, []⟩,
  ⟨CI.pure (pBuild [(.int .i64 0), (.int .i64 0), (.int .i64 0), (.int .i64 0), (.slice none 0 0), (.slice none 0 0), (.slice none 0 0), (.int .i64 0), (.int .i64 0), (.int .i64 0), (.int .i64 0)] [(0, 1, (cv (.int .i64 9))), (8, 1, (tg 33)), (9, 1, (tg 35)), (10, 1, (tg 37))]), (some 38), none, 11, []⟩,
  ⟨CI.pure (pIaddrS 11 (tg 30) (tg 31)), (some 39), none, 12, []⟩,
  ⟨CI.mem 3 (mStore 11 (tg 39) (tg 38)), none, none, 13, []⟩]
@[simp] def oe2_7_ap := das_rule (c := oe2_7) rfl
def ce2_2 : SC := sCond (tg 26) (sAny oe2_7) sSkip
@[simp] def ce2_2_ap := cond_rule (c := ce2_2) rfl
def ce2_3 : SC := sSeq (sReg (seqI oe2_6)) ce2_2
@[simp] def ce2_3_ap := seq_rule (c := ce2_3) rfl
def ce2_4 : SC := sSeq (sReg (seqI oe2_5)) ce2_3
@[simp] def ce2_4_ap := seq_rule (c := ce2_4) rfl
def ce2_5 : SC := sBlock 1 ce2_4
@[simp] def ce2_5_ap := block_rule (c := ce2_5) rfl
def oe2_8 : List IS := [ip 40 (pBin .add (tg 11) (cv (.int .i64 1))),
  ip 11 (pMov (tg 40))]
@[simp] def oe2_8_ap := ops_rule (c := oe2_8) rfl
def ce2_6 : SC := sSeq ce2_5 (sReg (seqI oe2_8))
@[simp] def ce2_6_ap := seq_rule (c := ce2_6) rfl
def ce2_7 : SC := sSeq cf0 ce2_6
@[simp] def ce2_7_ap := seq_rule (c := ce2_7) rfl
def ce2_8 : SC := sSeq (sReg (seqI oe2_4)) ce2_7
@[simp] def ce2_8_ap := seq_rule (c := ce2_8) rfl
def ce2_9 : SC := sLoop ce2_8
def ce2_10 : SC := sBlock 0 ce2_9
@[simp] def ce2_10_ap := block_rule (c := ce2_10) rfl
def ce2_11 : SC := sSeq (sReg (seqI oe2_3)) ce2_10
@[simp] def ce2_11_ap := seq_rule (c := ce2_11) rfl
def oe2_9 : List IS := [il 41 (tg 1) (mLoad1 (tg 1)),
  ip 42 (pMov (tg 2)),
  im 3 43 (mCall 165 [(tg 41), (tg 42)])]
@[simp] def oe2_9_ap := ops_rule (c := oe2_9) rfl
def ce2_12 : SC := sSeq ce2_11 (sReg (seqI oe2_9))
@[simp] def ce2_12_ap := seq_rule (c := ce2_12) rfl
def ce2_13 : SC := sSeq (sReg (seqI oe2_2)) ce2_12
@[simp] def ce2_13_ap := seq_rule (c := ce2_13) rfl
def ce2_14 : SC := sSeq (sReg (seqI of0)) ce2_13
@[simp] def ce2_14_ap := seq_rule (c := ce2_14) rfl
def de2 : DFn := ⟨ce2_14, 44, []⟩
theorem de2_ok : fnOf Tryz.prog 110 = some de2 := by kernel_rfl
def oe3_1 : List IS := [ip 7 (pMov (tg 0)),
  ip 8 (pNilck (tg 7)),
  ip 9 (pFaddr 0 (tg 8)),
  il 10 (tg 9) (mLoad1 (tg 9)),
  im 3 11 (mCall 62 [(tg 10)]),
  ip 2 (pMov (tg 11))]
@[simp] def oe3_1_ap := ops_rule (c := oe3_1) rfl
def oe3_2 : List IS := [ip 12 (pMov (tg 2)),
  ip 13 (pLen (tg 12)),
  ip 14 (pMov (cv (.int .i64 0)))]
@[simp] def oe3_2_ap := ops_rule (c := oe3_2) rfl
def oe3_3 : List IS := [ip 15 (pBin .lss (tg 14) (tg 13))]
@[simp] def oe3_3_ap := ops_rule (c := oe3_3) rfl
def ce3_1 : SC := sCond (tg 15) sSkip (sExit 0)
@[simp] def ce3_1_ap := cond_rule (c := ce3_1) rfl
def oe3_4 : List IS := [ip 16 (pMov (tg 14)),
  ip 17 (pIaddrS 11 (tg 12) (tg 14)),
  il 18 (tg 17) (mLoadN 11 (tg 17)),
  im 1 4 (mAlloc [(.int .i64 0), (.int .i64 0), (.int .i64 0), (.int .i64 0), (.slice none 0 0), (.slice none 0 0), (.slice none 0 0), (.int .i64 0), (.int .i64 0), (.int .i64 0), (.int .i64 0)]),
  ip 3 (pMov (tg 16)),
  im0 3 (mStore 11 (tg 4) (tg 18))]
@[simp] def oe3_4_ap := ops_rule (c := oe3_4) rfl
def oe3_5 : List IS := [ip 19 (pFaddr 0 (tg 4)),
  il 20 (tg 19) (mLoad1 (tg 19)),
  ip 21 (pBin .neq (tg 20) (cv (.int .i64 9))),
  ip 22 (pMov (tg 21)),
  gd 22 true (some 23) (ip 23 (pFaddr 0 (tg 4))),
  gd 22 true (some 24) (il 24 (tg 23) (mLoad1 (tg 23))),
  gd 22 true (some 25) (ip 25 (pBin .neq (tg 24) (cv (.int .i64 10)))),
  ip 26 (pPick (tg 22) (tg 25) (cv (.bool false)))]
@[simp] def oe3_5_ap := ops_rule (c := oe3_5) rfl
def ce3_2 : SC := sCond (tg 26) (sExit 1) sSkip
@[simp] def ce3_2_ap := cond_rule (c := ce3_2) rfl
def ce3_3 : SC := sSeq (sReg (seqI oe3_5)) ce3_2
@[simp] def ce3_3_ap := seq_rule (c := ce3_3) rfl
def oe3_6 : List IS := [im 3 27 mMkmap,
  ip 5 (pMov (tg 27))]
@[simp] def oe3_6_ap := ops_rule (c := oe3_6) rfl
def oe3_7 : List IS := [ip 28 (pFaddr 8 (tg 4)),
  il 29 (tg 28) (mLoad1 (tg 28)),
  ip 6 (pMov (tg 29))]
@[simp] def oe3_7_ap := ops_rule (c := oe3_7) rfl
def oe3_8 : List IS := [ip 30 (pMov (tg 6)),
  ip 31 (pMov (tg 2)),
  ip 32 (pLen (tg 31)),
  ip 33 (pBin .lss (tg 30) (tg 32)),
  ip 34 (pMov (tg 33)),
  gd 34 true (some 35) (ip 35 (pMov (tg 2))),
  gd 34 true (some 36) (ip 36 (pMov (tg 6))),
  gd 34 true (some 37) (ip 37 (pIaddrS 11 (tg 35) (tg 36))),
  gd 34 true (some 38) (ip 38 (pFaddr 0 (tg 37))),
  gd 34 true (some 39) (il 39 (tg 38) (mLoad1 (tg 38))),
  gd 34 true (some 40) (ip 40 (pBin .eql (tg 39) (cv (.int .i64 9)))),
  ip 41 (pPick (tg 34) (tg 40) (cv (.bool false))),
  ip 42 (pMov (tg 41)),
  gd 42 true (some 43) (ip 43 (pMov (tg 5))),
  gd 42 true (some 44) (ip 44 (pMov (tg 6))),
  gd 42 true (some 45) (im 3 45 (mLookup (.bool false) false (tg 43) (tg 44))),
  gd 42 true (some 46) (ip 46 (pUn .not (tg 45))),
  ip 47 (pPick (tg 42) (tg 46) (cv (.bool false)))]
@[simp] def oe3_8_ap := ops_rule (c := oe3_8) rfl
def ce3_4 : SC := sCond (tg 47) sSkip (sExit 2)
@[simp] def ce3_4_ap := cond_rule (c := ce3_4) rfl
def ce3_5 : SC := sSeq (sReg (seqI oe3_8)) ce3_4
@[simp] def ce3_5_ap := seq_rule (c := ce3_5) rfl
def oe3_9 : List IS := [ip 48 (pMov (tg 5)),
  ip 49 (pMov (tg 6)),
  im0 3 (mMapup (tg 48) (tg 49) (cv (.bool true)))]
@[simp] def oe3_9_ap := ops_rule (c := oe3_9) rfl
def oe3_10 : List IS := [ip 50 (pMov (tg 2)),
  ip 51 (pMov (tg 6)),
  ip 52 (pIaddrS 11 (tg 50) (tg 51)),
  ip 53 (pFaddr 8 (tg 52)),
  il 54 (tg 53) (mLoad1 (tg 53)),
  ip 6 (pMov (tg 54))]
@[simp] def oe3_10_ap := ops_rule (c := oe3_10) rfl
def ce3_6 : SC := sSeq (sReg (seqI oe3_9)) (sReg (seqI oe3_10))
@[simp] def ce3_6_ap := seq_rule (c := ce3_6) rfl
def ce3_7 : SC := sBlock 3 ce3_6
@[simp] def ce3_7_ap := block_rule (c := ce3_7) rfl
def ce3_8 : SC := sSeq ce3_5 ce3_7
@[simp] def ce3_8_ap := seq_rule (c := ce3_8) rfl
def ce3_9 : SC := sLoop ce3_8
def ce3_10 : SC := sBlock 2 ce3_9
@[simp] def ce3_10_ap := block_rule (c := ce3_10) rfl
def oe3_11 : List IS := [ip 55 (pMov (tg 6)),
  ip 56 (pMov (tg 2)),
  ip 57 (pLen (tg 56)),
  ip 58 (pBin .eql (tg 55) (tg 57)),
  ip 59 (pMov (tg 58)),
  gd 59 false (some 60) (ip 60 (pMov (tg 5))),
  gd 59 false (some 61) (ip 61 (pMov (tg 6))),
  gd 59 false (some 62) (im 3 62 (mLookup (.bool false) false (tg 60) (tg 61))),
  gd 59 false (some 63) (ip 63 (pUn .not (tg 62))),
  ip 64 (pPick (tg 59) (cv (.bool true)) (tg 63))]
@[simp] def oe3_11_ap := ops_rule (c := oe3_11) rfl
def oe3_12 : List IS := [ip 65 (pMov (tg 0)),
  ip 66 (pNilck (tg 65)),
  ip 67 (pFaddr 0 (tg 66)),
  il 68 (tg 67) (mLoad1 (tg 67)),
  ip 69 (pMov (tg 3)),
  ip 70 (pMov (tg 6)),
  ip 71 (pIaddrS 11 (tg 68) (tg 69)),
  ip 72 (pFaddr 8 (tg 71)),
  im0 3 (mStore 1 (tg 72) (tg 70))]
@[simp] def oe3_12_ap := ops_rule (c := oe3_12) rfl
def ce3_11 : SC := sCond (tg 64) (sReg (seqI oe3_12)) sSkip
@[simp] def ce3_11_ap := cond_rule (c := ce3_11) rfl
def ce3_12 : SC := sSeq (sReg (seqI oe3_11)) ce3_11
@[simp] def ce3_12_ap := seq_rule (c := ce3_12) rfl
def ce3_13 : SC := sSeq ce3_10 ce3_12
@[simp] def ce3_13_ap := seq_rule (c := ce3_13) rfl
def ce3_14 : SC := sSeq (sReg (seqI oe3_7)) ce3_13
@[simp] def ce3_14_ap := seq_rule (c := ce3_14) rfl
def ce3_15 : SC := sSeq (sReg (seqI oe3_6)) ce3_14
@[simp] def ce3_15_ap := seq_rule (c := ce3_15) rfl
def ce3_16 : SC := sSeq ce3_3 ce3_15
@[simp] def ce3_16_ap := seq_rule (c := ce3_16) rfl
def ce3_17 : SC := sSeq (sReg (seqI oe3_4)) ce3_16
@[simp] def ce3_17_ap := seq_rule (c := ce3_17) rfl
def ce3_18 : SC := sBlock 1 ce3_17
@[simp] def ce3_18_ap := block_rule (c := ce3_18) rfl
def oe3_13 : List IS := [ip 73 (pBin .add (tg 14) (cv (.int .i64 1))),
  ip 14 (pMov (tg 73))]
@[simp] def oe3_13_ap := ops_rule (c := oe3_13) rfl
def ce3_19 : SC := sSeq ce3_18 (sReg (seqI oe3_13))
@[simp] def ce3_19_ap := seq_rule (c := ce3_19) rfl
def ce3_20 : SC := sSeq ce3_1 ce3_19
@[simp] def ce3_20_ap := seq_rule (c := ce3_20) rfl
def ce3_21 : SC := sSeq (sReg (seqI oe3_3)) ce3_20
@[simp] def ce3_21_ap := seq_rule (c := ce3_21) rfl
def ce3_22 : SC := sLoop ce3_21
def ce3_23 : SC := sBlock 0 ce3_22
@[simp] def ce3_23_ap := block_rule (c := ce3_23) rfl
def ce3_24 : SC := sSeq (sReg (seqI oe3_2)) ce3_23
@[simp] def ce3_24_ap := seq_rule (c := ce3_24) rfl
def ce3_25 : SC := sSeq (sReg (seqI oe3_1)) ce3_24
@[simp] def ce3_25_ap := seq_rule (c := ce3_25) rfl
def de3 : DFn := ⟨ce3_25, 74, []⟩
theorem de3_ok : fnOf Tryz.prog 111 = some de3 := by kernel_rfl
def of2 : List IS := [ip 6 (pMov (tg 0)),
  ip 7 (pNilck (tg 6)),
  ip 8 (pFaddr 0 (tg 7)),
  il 9 (tg 8) (mLoad1 (tg 8)),
  ip 10 (pLen (tg 9)),
  ip 11 (pBin .add (tg 10) (cv (.int .i64 1))),
  im 1 12 (mMkslice 1 1 [(.bool false)] (tg 11) (tg 11)),
  im 1 2 (mAlloc [(.slice none 0 0)]),
  im0 3 (mStore 1 (tg 2) (tg 12))]
@[simp] def of2_ap := ops_rule (c := of2) rfl
def oe4_2 : List IS := [im 1 13 (mBslice 1 1 (rep 1 [(.int .i64 0)]) [(0, 1, (cv (.int .i64 0)))]),
  ip 3 (pMov (tg 13))]
@[simp] def oe4_2_ap := ops_rule (c := oe4_2) rfl
def oe4_3 : List IS := [ip 14 (pMov (tg 3)),
  ip 15 (pLen (tg 14)),
  ip 16 (pBin .gtr (tg 15) (cv (.int .i64 0)))]
@[simp] def oe4_3_ap := ops_rule (c := oe4_3) rfl
def cf2 : SC := sCond (tg 16) sSkip (sExit 0)
@[simp] def cf2_ap := cond_rule (c := cf2) rfl
def ce4_2 : SC := sSeq (sReg (seqI oe4_3)) cf2
@[simp] def ce4_2_ap := seq_rule (c := ce4_2) rfl
def oe4_4 : List IS := [ip 17 (pMov (tg 3)),
  ip 18 (pMov (tg 3)),
  ip 19 (pLen (tg 18)),
  ip 20 (pBin .sub (tg 19) (cv (.int .i64 1))),
  ip 21 (pIaddrS 1 (tg 17) (tg 20)),
  il 22 (tg 21) (mLoad1 (tg 21)),
  ip 4 (pMov (tg 22))]
@[simp] def oe4_4_ap := ops_rule (c := oe4_4) rfl
def oe4_5 : List IS := [ip 23 (pMov (tg 3)),
  ip 24 (pMov (tg 3)),
  ip 25 (pLen (tg 24)),
  ip 26 (pBin .sub (tg 25) (cv (.int .i64 1))),
  ip 27 (pSlice 1 (tg 23) none (some (tg 26)) none),
  ip 3 (pMov (tg 27))]
@[simp] def oe4_5_ap := ops_rule (c := oe4_5) rfl
def oe4_6 : List IS := [il 28 (tg 2) (mLoad1 (tg 2)),
  ip 29 (pMov (tg 4)),
  ip 30 (pIaddrS 1 (tg 28) (tg 29)),
  il 31 (tg 30) (mLoad1 (tg 30)),
  ip 32 (pMov (tg 31)),
  gd 32 false (some 33) (ip 33 (pMov (tg 4))),
  gd 32 false (some 34) (ip 34 (pMov (tg 0))),
  gd 32 false (some 35) (ip 35 (pNilck (tg 34))),
  gd 32 false (some 36) (ip 36 (pFaddr 0 (tg 35))),
  gd 32 false (some 37) (il 37 (tg 36) (mLoad1 (tg 36))),
  gd 32 false (some 38) (ip 38 (pLen (tg 37))),
  gd 32 false (some 39) (ip 39 (pBin .eql (tg 33) (tg 38))),
  ip 40 (pPick (tg 32) (cv (.bool true)) (tg 39))]
@[simp] def oe4_6_ap := ops_rule (c := oe4_6) rfl
def ce4_3 : SC := sCond (tg 40) (sExit 1) sSkip
@[simp] def ce4_3_ap := cond_rule (c := ce4_3) rfl
def ce4_4 : SC := sSeq (sReg (seqI oe4_6)) ce4_3
@[simp] def ce4_4_ap := seq_rule (c := ce4_4) rfl
def oe4_7 : List IS := [il 41 (tg 2) (mLoad1 (tg 2)),
  ip 42 (pMov (tg 4)),
  ip 43 (pIaddrS 1 (tg 41) (tg 42)),
  im0 3 (mStore 1 (tg 43) (cv (.bool true)))]
@[simp] def oe4_7_ap := ops_rule (c := oe4_7) rfl
def oe4_8 : List IS := [ip 44 (pMov (tg 0)),
  ip 45 (pNilck (tg 44)),
  ip 46 (pFaddr 0 (tg 45)),
  il 47 (tg 46) (mLoad1 (tg 46)),
  ip 48 (pMov (tg 4)),
  ip 49 (pIaddrS 11 (tg 47) (tg 48)),
  il 50 (tg 49) (mLoadN 11 (tg 49)),
  im 1 5 (mAlloc [(.int .i64 0), (.int .i64 0), (.int .i64 0), (.int .i64 0), (.slice none 0 0), (.slice none 0 0), (.slice none 0 0), (.int .i64 0), (.int .i64 0), (.int .i64 0), (.int .i64 0)]),
  im0 3 (mStore 11 (tg 5) (tg 50))]
@[simp] def oe4_8_ap := ops_rule (c := oe4_8) rfl
def oe4_9 : List IS := [ip 51 (pFaddr 0 (tg 5)),
  il 52 (tg 51) (mLoad1 (tg 51)),
  ip 53 (pBin .eql (tg 52) (cv (.int .i64 9))),
  ip 54 (pMov (tg 53)),
  gd 54 false (some 55) (ip 55 (pFaddr 0 (tg 5))),
  gd 54 false (some 56) (il 56 (tg 55) (mLoad1 (tg 55))),
  gd 54 false (some 57) (ip 57 (pBin .eql (tg 56) (cv (.int .i64 10)))),
  ip 58 (pPick (tg 54) (cv (.bool true)) (tg 57))]
@[simp] def oe4_9_ap := ops_rule (c := oe4_9) rfl
def oe4_10 : List IS := [ip 59 (pMov (tg 3)),
  ip 60 (pFaddr 8 (tg 5)),
  il 61 (tg 60) (mLoad1 (tg 60)),
  im 1 62 (mBslice 1 1 (rep 1 [(.int .i64 0)]) [(0, 1, (tg 61))]),
  im 3 63 (mAppend 1 8 (tg 59) (tg 62)),
  ip 3 (pMov (tg 63))]
@[simp] def oe4_10_ap := ops_rule (c := oe4_10) rfl
def ce4_5 : SC := sCond (tg 58) (sReg (seqI oe4_10)) sSkip
@[simp] def ce4_5_ap := cond_rule (c := ce4_5) rfl
def ce4_6 : SC := sSeq (sReg (seqI oe4_9)) ce4_5
@[simp] def ce4_6_ap := seq_rule (c := ce4_6) rfl
def oe4_11 : List IS := [ip 64 (pFaddr 0 (tg 5)),
  il 65 (tg 64) (mLoad1 (tg 64)),
  ip 66 (pBin .neq (tg 65) (cv (.int .i64 9)))]
@[simp] def oe4_11_ap := ops_rule (c := oe4_11) rfl
def oe4_12 : List IS := [ip 67 (pMov (tg 3)),
  ip 68 (pMov (tg 4)),
  ip 69 (pBin .add (tg 68) (cv (.int .i64 1))),
  im 1 70 (mBslice 1 1 (rep 1 [(.int .i64 0)]) [(0, 1, (tg 69))]),
  im 3 71 (mAppend 1 8 (tg 67) (tg 70)),
  ip 3 (pMov (tg 71))]
@[simp] def oe4_12_ap := ops_rule (c := oe4_12) rfl
def ce4_7 : SC := sCond (tg 66) (sReg (seqI oe4_12)) sSkip
@[simp] def ce4_7_ap := cond_rule (c := ce4_7) rfl
def ce4_8 : SC := sSeq (sReg (seqI oe4_11)) ce4_7
@[simp] def ce4_8_ap := seq_rule (c := ce4_8) rfl
def ce4_9 : SC := sSeq ce4_6 ce4_8
@[simp] def ce4_9_ap := seq_rule (c := ce4_9) rfl
def ce4_10 : SC := sSeq (sReg (seqI oe4_8)) ce4_9
@[simp] def ce4_10_ap := seq_rule (c := ce4_10) rfl
def ce4_11 : SC := sSeq (sReg (seqI oe4_7)) ce4_10
@[simp] def ce4_11_ap := seq_rule (c := ce4_11) rfl
def ce4_12 : SC := sSeq ce4_4 ce4_11
@[simp] def ce4_12_ap := seq_rule (c := ce4_12) rfl
def ce4_13 : SC := sSeq (sReg (seqI oe4_5)) ce4_12
@[simp] def ce4_13_ap := seq_rule (c := ce4_13) rfl
def ce4_14 : SC := sSeq (sReg (seqI oe4_4)) ce4_13
@[simp] def ce4_14_ap := seq_rule (c := ce4_14) rfl
def ce4_15 : SC := sBlock 1 ce4_14
@[simp] def ce4_15_ap := block_rule (c := ce4_15) rfl
def ce4_16 : SC := sSeq ce4_2 ce4_15
@[simp] def ce4_16_ap := seq_rule (c := ce4_16) rfl
def ce4_17 : SC := sLoop ce4_16
def ce4_18 : SC := sBlock 0 ce4_17
@[simp] def ce4_18_ap := block_rule (c := ce4_18) rfl
def oe4_13 : List IS := [ip 72 (pMov (tg 0)),
  ip 73 (pMkfn 166 [] [(tg 2)]),
  im 3 74 (mCall 165 [(tg 72), (tg 73)])]
@[simp] def oe4_13_ap := ops_rule (c := oe4_13) rfl
def ce4_19 : SC := sSeq ce4_18 (sReg (seqI oe4_13))
@[simp] def ce4_19_ap := seq_rule (c := ce4_19) rfl
def ce4_20 : SC := sSeq (sReg (seqI oe4_2)) ce4_19
@[simp] def ce4_20_ap := seq_rule (c := ce4_20) rfl
def ce4_21 : SC := sSeq (sReg (seqI of2)) ce4_20
@[simp] def ce4_21_ap := seq_rule (c := ce4_21) rfl
def de4 : DFn := ⟨ce4_21, 75, []⟩
theorem de4_ok : fnOf Tryz.prog 112 = some de4 := by kernel_rfl
def of3 : List IS := [im 1 1 (mBox (tg 0))]
@[simp] def of3_ap := ops_rule (c := of3) rfl
def oe5_2 : List IS := [il 2 (tg 1) (mLoad1 (tg 1)),
  ip 3 (pMkfn 167 [] [(tg 1)]),
  im 3 4 (mCall 165 [(tg 2), (tg 3)])]
@[simp] def oe5_2_ap := ops_rule (c := oe5_2) rfl
def cf3 : SC := sSeq (sReg (seqI of3)) (sReg (seqI oe5_2))
@[simp] def cf3_ap := seq_rule (c := cf3) rfl
def de5 : DFn := ⟨cf3, 5, []⟩
theorem de5_ok : fnOf Tryz.prog 113 = some de5 := by kernel_rfl
def of5 : List IS := [ip 10 (pMov (tg 0)),
  ip 11 (pNilck (tg 10)),
  ip 12 (pFaddr 0 (tg 11)),
  il 13 (tg 12) (mLoad1 (tg 12)),
  ip 14 (pLen (tg 13)),
  ip 15 (pBin .add (tg 14) (cv (.int .i64 1))),
  im 1 16 (mMkslice 1 1 [(.bool false)] (tg 15) (tg 15)),
  ip 2 (pMov (tg 16))]
@[simp] def of5_ap := ops_rule (c := of5) rfl
def oe6_2 : List IS := [ip 17 (pMov (tg 0)),
  ip 18 (pNilck (tg 17)),
  ip 19 (pFaddr 0 (tg 18)),
  il 20 (tg 19) (mLoad1 (tg 19)),
  ip 21 (pLen (tg 20)),
  ip 22 (pMov (cv (.int .i64 0)))]
@[simp] def oe6_2_ap := ops_rule (c := oe6_2) rfl
def oe6_3 : List IS := [ip 23 (pBin .lss (tg 22) (tg 21))]
@[simp] def oe6_3_ap := ops_rule (c := oe6_3) rfl
def cf5 : SC := sCond (tg 23) sSkip (sExit 0)
@[simp] def cf5_ap := cond_rule (c := cf5) rfl
def oe6_4 : List IS := [ip 24 (pIaddrS 11 (tg 20) (tg 22)),
  il 25 (tg 24) (mLoadN 11 (tg 24)),
  im 1 4 (mAlloc [(.int .i64 0), (.int .i64 0), (.int .i64 0), (.int .i64 0), (.slice none 0 0), (.slice none 0 0), (.slice none 0 0), (.int .i64 0), (.int .i64 0), (.int .i64 0), (.int .i64 0)]),
  im0 3 (mStore 11 (tg 4) (tg 25))]
@[simp] def oe6_4_ap := ops_rule (c := oe6_4) rfl
def oe6_5 : List IS := [ip 26 (pFaddr 0 (tg 4)),
  il 27 (tg 26) (mLoad1 (tg 26)),
  ip 28 (pBin .eql (tg 27) (cv (.int .i64 9))),
  ip 29 (pMov (tg 28)),
  gd 29 false (some 30) (ip 30 (pFaddr 0 (tg 4))),
  gd 29 false (some 31) (il 31 (tg 30) (mLoad1 (tg 30))),
  gd 29 false (some 32) (ip 32 (pBin .eql (tg 31) (cv (.int .i64 10)))),
  ip 33 (pPick (tg 29) (cv (.bool true)) (tg 32))]
@[simp] def oe6_5_ap := ops_rule (c := oe6_5) rfl
def oe6_6 : List IS := [ip 34 (pMov (tg 2)),
  ip 35 (pFaddr 8 (tg 4)),
  il 36 (tg 35) (mLoad1 (tg 35)),
  ip 37 (pIaddrS 1 (tg 34) (tg 36)),
  im0 3 (mStore 1 (tg 37) (cv (.bool true)))]
@[simp] def oe6_6_ap := ops_rule (c := oe6_6) rfl
def ce6_2 : SC := sCond (tg 33) (sReg (seqI oe6_6)) sSkip
@[simp] def ce6_2_ap := cond_rule (c := ce6_2) rfl
def ce6_3 : SC := sSeq (sReg (seqI oe6_5)) ce6_2
@[simp] def ce6_3_ap := seq_rule (c := ce6_3) rfl
def ce6_4 : SC := sSeq (sReg (seqI oe6_4)) ce6_3
@[simp] def ce6_4_ap := seq_rule (c := ce6_4) rfl
def ce6_5 : SC := sBlock 1 ce6_4
@[simp] def ce6_5_ap := block_rule (c := ce6_5) rfl
def oe6_7 : List IS := [ip 38 (pBin .add (tg 22) (cv (.int .i64 1))),
  ip 22 (pMov (tg 38))]
@[simp] def oe6_7_ap := ops_rule (c := oe6_7) rfl
def ce6_6 : SC := sSeq ce6_5 (sReg (seqI oe6_7))
@[simp] def ce6_6_ap := seq_rule (c := ce6_6) rfl
def ce6_7 : SC := sSeq cf5 ce6_6
@[simp] def ce6_7_ap := seq_rule (c := ce6_7) rfl
def ce6_8 : SC := sSeq (sReg (seqI oe6_3)) ce6_7
@[simp] def ce6_8_ap := seq_rule (c := ce6_8) rfl
def ce6_9 : SC := sLoop ce6_8
def ce6_10 : SC := sBlock 0 ce6_9
@[simp] def ce6_10_ap := block_rule (c := ce6_10) rfl
def ce6_11 : SC := sSeq (sReg (seqI oe6_2)) ce6_10
@[simp] def ce6_11_ap := seq_rule (c := ce6_11) rfl
def oe6_8 : List IS := [ip 39 (pMov (tg 0)),
  ip 40 (pNilck (tg 39)),
  ip 41 (pFaddr 0 (tg 40)),
  il 42 (tg 41) (mLoad1 (tg 41)),
  ip 43 (pLen (tg 42)),
  im 1 44 (mMkslice 1 1 [(.bool false)] (tg 43) (tg 43)),
  im 1 5 (mAlloc [(.slice none 0 0)]),
  im0 3 (mStore 1 (tg 5) (tg 44))]
@[simp] def oe6_8_ap := ops_rule (c := oe6_8) rfl
def oe6_9 : List IS := [ip 6 (pMov (cv (.int .i64 0)))]
@[simp] def oe6_9_ap := ops_rule (c := oe6_9) rfl
def oe6_10 : List IS := [ip 45 (pMov (tg 6)),
  ip 46 (pBin .add (tg 45) (cv (.int .i64 1))),
  ip 47 (pMov (tg 0)),
  ip 48 (pNilck (tg 47)),
  ip 49 (pFaddr 0 (tg 48)),
  il 50 (tg 49) (mLoad1 (tg 49)),
  ip 51 (pLen (tg 50)),
  ip 52 (pBin .lss (tg 46) (tg 51))]
@[simp] def oe6_10_ap := ops_rule (c := oe6_10) rfl
def ce6_12 : SC := sCond (tg 52) sSkip (sExit 2)
@[simp] def ce6_12_ap := cond_rule (c := ce6_12) rfl
def ce6_13 : SC := sSeq (sReg (seqI oe6_10)) ce6_12
@[simp] def ce6_13_ap := seq_rule (c := ce6_13) rfl
def oe6_11 : List DA := [⟨CI.pure (pMov (tg 0)), (some 55), none, 0, []⟩,
  ⟨CI.pure (pNilck (tg 55)), (some 56), none, 1, []⟩,
  ⟨CI.pure (pFaddr 0 (tg 56)), (some 57), none, 2, []⟩,
  ⟨CI.load (tg 57) (mLoad1 (tg 57)), (some 58), none, 3, []⟩,
  ⟨CI.pure (pMov (tg 6)), (some 59), none, 4, []⟩,
  ⟨CI.pure (pIaddrS 11 (tg 58) (tg 59)), (some 60), none, 5, []⟩,
  ⟨CI.load (tg 60) (mLoadN 11 (tg 60)), (some 61), none, 6, []⟩,
  ⟨CI.pure (pMov (tg 0)), (some 62), none, 7, []⟩,
  ⟨CI.pure (pNilck (tg 62)), (some 63), none, 8, []⟩,
  ⟨CI.pure (pFaddr 0 (tg 63)), (some 64), none, 9, []⟩,
  ⟨CI.load (tg 64) (mLoad1 (tg 64)), (some 65), none, 10, []⟩,
  ⟨CI.pure (pMov (tg 6)), (some 66), none, 11, []⟩,
  ⟨CI.pure (pBin .add (tg 66) (cv (.int .i64 1))), (some 67), none, 12, []⟩,
  ⟨CI.pure (pIaddrS 11 (tg 65) (tg 67)), (some 68), none, 13, []⟩,
  ⟨CI.load (tg 68) (mLoadN 11 (tg 68)), (some 69), none, 14, []⟩,
  ⟨CI.mem 1 (mAlloc [(.int .i64 0), (.int .i64 0), (.int .i64 0), (.int .i64 0), (.slice none 0 0), (.slice none 0 0), (.slice none 0 0), (.int .i64 0), (.int .i64 0), (.int .i64 0), (.int .i64 0)]), (some 7), none, 15, []⟩,
  ⟨CI.mem 1 (mAlloc [(.int .i64 0), (.int .i64 0), (.int .i64 0), (.int .i64 0), (.slice none 0 0), (.slice none 0 0), (.slice none 0 0), (.int .i64 0), (.int .i64 0), (.int .i64 0), (.int .i64 0)]), (some 8), none, 16, []⟩,
  ⟨CI.mem 3 (mStore 11 (tg 7) (tg 61)), none, none, 17, [10, 14]⟩,
  ⟨CI.mem 3 (mStore 11 (tg 8) (tg 69)), none, none, 18, []⟩]
@[simp] def oe6_11_ap := das_rule (c := oe6_11) rfl
def oe6_12 : List IS := [ip 70 (pMov (tg 2)),
  ip 71 (pMov (tg 6)),
  ip 72 (pBin .add (tg 71) (cv (.int .i64 1))),
  ip 73 (pIaddrS 1 (tg 70) (tg 72)),
  il 74 (tg 73) (mLoad1 (tg 73)),
  ip 75 (pMov (tg 74)),
  gd 75 false (some 76) (il 76 (tg 7) (mLoadN 11 (tg 7))),
  gd 75 false (some 77) (im 3 77 (mCall 168 [(tg 76)])),
  gd 75 false (some 78) (ip 78 (pUn .not (tg 77))),
  ip 79 (pPick (tg 75) (cv (.bool true)) (tg 78)),
  ip 80 (pMov (tg 79)),
  gd 80 false (some 81) (il 81 (tg 8) (mLoadN 11 (tg 8))),
  gd 80 false (some 82) (im 3 82 (mCall 168 [(tg 81)])),
  gd 80 false (some 83) (ip 83 (pUn .not (tg 82))),
  ip 84 (pPick (tg 80) (cv (.bool true)) (tg 83)),
  ip 85 (pMov (tg 84)),
  gd 85 false (some 86) (ip 86 (pFaddr 2 (tg 7))),
  gd 85 false (some 87) (il 87 (tg 86) (mLoad1 (tg 86))),
  gd 85 false (some 88) (ip 88 (pFaddr 2 (tg 8))),
  gd 85 false (some 89) (il 89 (tg 88) (mLoad1 (tg 88))),
  gd 85 false (some 90) (ip 90 (pBin .neq (tg 87) (tg 89))),
  ip 91 (pPick (tg 85) (cv (.bool true)) (tg 90))]
@[simp] def oe6_12_ap := ops_rule (c := oe6_12) rfl
def ce6_14 : SC := sCond (tg 91) (sExit 3) sSkip
@[simp] def ce6_14_ap := cond_rule (c := ce6_14) rfl
def ce6_15 : SC := sSeq (sReg (seqI oe6_12)) ce6_14
@[simp] def ce6_15_ap := seq_rule (c := ce6_15) rfl
def oe6_13 : List IS := [ip 92 (pFaddr 1 (tg 8)),
  il 93 (tg 92) (mLoad1 (tg 92)),
  ip 94 (pFaddr 9 (tg 8)),
  il 95 (tg 94) (mLoad1 (tg 94)),
  ip 96 (pFaddr 10 (tg 8)),
  il 97 (tg 96) (mLoad1 (tg 96)),
  ip 98 (pBuild [(.int .i64 0), (.int .i64 0), (.int .i64 0), (.int .i64 0), (.slice none 0 0), (.slice none 0 0), (.slice none 0 0), (.int .i64 0), (.int .i64 0), (.int .i64 0), (.int .i64 0)] [(0, 1, (cv (.int .i64 1))), (1, 1, (tg 93)), (9, 1, (tg 95)), (10, 1, (tg 97))]),
  im 1 9 (mAlloc [(.int .i64 0), (.int .i64 0), (.int .i64 0), (.int .i64 0), (.slice none 0 0), (.slice none 0 0), (.slice none 0 0), (.int .i64 0), (.int .i64 0), (.int .i64 0), (.int .i64 0)]),
  im0 3 (mStore 11 (tg 9) (tg 98))]
@[simp] def oe6_13_ap := ops_rule (c := oe6_13) rfl
def oe6_14 : List IS := [ip 114 (pFaddr 0 (tg 8)),
  il 115 (tg 114) (mLoad1 (tg 114)),
  ip 116 (pBin .eql (tg 115) (cv (.int .i64 3))),
  ip 117 (pMov (tg 116)),
  gd 117 true (some 118) (ip 118 (pFaddr 0 (tg 7))),
  gd 117 true (some 119) (il 119 (tg 118) (mLoad1 (tg 118))),
  gd 117 true (some 120) (ip 120 (pBin .eql (tg 119) (cv (.int .i64 3)))),
  ip 121 (pPick (tg 117) (tg 120) (cv (.bool false))),
  ip 113 (pMov (tg 121))]
@[simp] def oe6_14_ap := ops_rule (c := oe6_14) rfl
def oe6_15 : List IS := [il 122 (tg 5) (mLoad1 (tg 5)),
  ip 123 (pMov (tg 6)),
  ip 124 (pIaddrS 1 (tg 122) (tg 123)),
  im0 3 (mStore 1 (tg 124) (cv (.bool true)))]
@[simp] def oe6_15_ap := ops_rule (c := oe6_15) rfl
def oe6_16 : List IS := [ip 126 (pFaddr 0 (tg 8)),
  il 127 (tg 126) (mLoad1 (tg 126)),
  ip 128 (pBin .eql (tg 127) (cv (.int .i64 3))),
  ip 125 (pMov (tg 128))]
@[simp] def oe6_16_ap := ops_rule (c := oe6_16) rfl
def oe6_17 : List IS := [ip 130 (pFaddr 0 (tg 7)),
  il 131 (tg 130) (mLoad1 (tg 130)),
  ip 132 (pBin .eql (tg 131) (cv (.int .i64 3))),
  ip 129 (pMov (tg 132))]
@[simp] def oe6_17_ap := ops_rule (c := oe6_17) rfl
def oe6_18 : List IS := [ip 133 (pFaddr 5 (tg 7)),
  il 134 (tg 133) (mLoad1 (tg 133)),
  im 3 135 (mCall 97 [(tg 134)]),
  ip 136 (pFaddr 5 (tg 9)),
  im0 3 (mStore 1 (tg 136) (tg 135))]
@[simp] def oe6_18_ap := ops_rule (c := oe6_18) rfl
def oe6_19 : List DA := [⟨CI.pure (pMov (tg 0)), (some 137), none, 0, []⟩,
  ⟨CI.pure (pNilck (tg 137)), (some 138), none, 1, []⟩,
  ⟨CI.pure (pFaddr 0 (tg 138)), (some 139), none, 2, []⟩,
  ⟨CI.load (tg 139) (mLoad1 (tg 139)), (some 140), none, 3, []⟩,
  ⟨CI.pure (pMov (tg 6)), (some 141), none, 4, []⟩,
  ⟨CI.pure (pBin .add (tg 141) (cv (.int .i64 1))), (some 142), none, 5, []⟩,
  ⟨CI.load (tg 9) (mLoadN 11 (tg 9)), (some 143), none, 6, []⟩,
  ⟨CI.pure (pIaddrS 11 (tg 140) (tg 142)), (some 144), none, 7, []⟩,
  ⟨CI.mem 3 (mStore 11 (tg 144) (tg 143)), none, none, 8, []⟩]
@[simp] def oe6_19_ap := das_rule (c := oe6_19) rfl
def ce6_16 : SC := sSeq (sReg (seqI oe6_18)) (sAny oe6_19)
@[simp] def ce6_16_ap := seq_rule (c := ce6_16) rfl
def oe6_20 : List IS := [ip 99 (pFaddr 1 (tg 7)),
  il 100 (tg 99) (mLoad1 (tg 99)),
  ip 101 (pConvI .u64 (tg 100)),
  ip 102 (pBuild [(.int .i64 0), (.int .u64 0), (.int .i64 0), (.int .i64 0)] [(0, 1, (cv (.int .i64 2))), (1, 1, (tg 101))]),
  im 1 103 (mBslice 4 1 (rep 1 [(.int .i64 0), (.int .u64 0), (.int .i64 0), (.int .i64 0)]) [(0, 4, (tg 102))]),
  ip 104 (pFaddr 5 (tg 9)),
  im0 3 (mStore 1 (tg 104) (tg 103))]
@[simp] def oe6_20_ap := ops_rule (c := oe6_20) rfl
def oe6_21 : List DA := [⟨CI.pure (pMov (tg 0)), (some 105), none, 0, []⟩,
  ⟨CI.pure (pNilck (tg 105)), (some 106), none, 1, []⟩,
  ⟨CI.pure (pFaddr 0 (tg 106)), (some 107), none, 2, []⟩,
  ⟨CI.load (tg 107) (mLoad1 (tg 107)), (some 108), none, 3, []⟩,
  ⟨CI.pure (pMov (tg 6)), (some 109), none, 4, []⟩,
  ⟨CI.pure (pBin .add (tg 109) (cv (.int .i64 1))), (some 110), none, 5, []⟩,
  ⟨CI.load (tg 9) (mLoadN 11 (tg 9)), (some 111), none, 6, []⟩,
  ⟨CI.pure (pIaddrS 11 (tg 108) (tg 110)), (some 112), none, 7, []⟩,
  ⟨CI.mem 3 (mStore 11 (tg 112) (tg 111)), none, none, 8, []⟩]
@[simp] def oe6_21_ap := das_rule (c := oe6_21) rfl
def ce6_17 : SC := sSeq (sReg (seqI oe6_20)) (sAny oe6_21)
@[simp] def ce6_17_ap := seq_rule (c := ce6_17) rfl
def ce6_18 : SC := sCond (tg 129) ce6_16 ce6_17
@[simp] def ce6_18_ap := cond_rule (c := ce6_18) rfl
def ce6_19 : SC := sSeq (sReg (seqI oe6_17)) ce6_18
@[simp] def ce6_19_ap := seq_rule (c := ce6_19) rfl
def ce6_20 : SC := sCond (tg 125) sSkip ce6_19
@[simp] def ce6_20_ap := cond_rule (c := ce6_20) rfl
def ce6_21 : SC := sSeq (sReg (seqI oe6_16)) ce6_20
@[simp] def ce6_21_ap := seq_rule (c := ce6_21) rfl
def ce6_22 : SC := sCond (tg 113) (sReg (seqI oe6_15)) ce6_21
@[simp] def ce6_22_ap := cond_rule (c := ce6_22) rfl
def ce6_23 : SC := sSeq (sReg (seqI oe6_14)) ce6_22
@[simp] def ce6_23_ap := seq_rule (c := ce6_23) rfl
def ce6_24 : SC := sBlock 4 ce6_23
@[simp] def ce6_24_ap := block_rule (c := ce6_24) rfl
def ce6_25 : SC := sSeq (sReg (seqI oe6_13)) ce6_24
@[simp] def ce6_25_ap := seq_rule (c := ce6_25) rfl
def ce6_26 : SC := sSeq ce6_15 ce6_25
@[simp] def ce6_26_ap := seq_rule (c := ce6_26) rfl
def ce6_27 : SC := sSeq (sAny oe6_11) ce6_26
@[simp] def ce6_27_ap := seq_rule (c := ce6_27) rfl
def ce6_28 : SC := sBlock 3 ce6_27
@[simp] def ce6_28_ap := block_rule (c := ce6_28) rfl
def oe6_22 : List IS := [ip 53 (pMov (tg 6)),
  ip 54 (pBin .add (tg 53) (cv (.int .i64 1))),
  ip 6 (pMov (tg 54))]
@[simp] def oe6_22_ap := ops_rule (c := oe6_22) rfl
def ce6_29 : SC := sSeq ce6_28 (sReg (seqI oe6_22))
@[simp] def ce6_29_ap := seq_rule (c := ce6_29) rfl
def ce6_30 : SC := sSeq ce6_13 ce6_29
@[simp] def ce6_30_ap := seq_rule (c := ce6_30) rfl
def ce6_31 : SC := sLoop ce6_30
def ce6_32 : SC := sBlock 2 ce6_31
@[simp] def ce6_32_ap := block_rule (c := ce6_32) rfl
def ce6_33 : SC := sSeq (sReg (seqI oe6_9)) ce6_32
@[simp] def ce6_33_ap := seq_rule (c := ce6_33) rfl
def oe6_23 : List IS := [ip 145 (pMov (tg 0)),
  ip 146 (pMkfn 169 [] [(tg 5)]),
  im 3 147 (mCall 165 [(tg 145), (tg 146)])]
@[simp] def oe6_23_ap := ops_rule (c := oe6_23) rfl
def ce6_34 : SC := sSeq ce6_33 (sReg (seqI oe6_23))
@[simp] def ce6_34_ap := seq_rule (c := ce6_34) rfl
def ce6_35 : SC := sSeq (sReg (seqI oe6_8)) ce6_34
@[simp] def ce6_35_ap := seq_rule (c := ce6_35) rfl
def ce6_36 : SC := sSeq ce6_11 ce6_35
@[simp] def ce6_36_ap := seq_rule (c := ce6_36) rfl
def ce6_37 : SC := sSeq (sReg (seqI of5)) ce6_36
@[simp] def ce6_37_ap := seq_rule (c := ce6_37) rfl
def de6 : DFn := ⟨ce6_37, 148, []⟩
theorem de6_ok : fnOf Tryz.prog 114 = some de6 := by kernel_rfl
def of0_1 : List IS := [ip 3 (pMov (cv (.bool false)))]
@[simp] def of0_1_ap := ops_rule (c := of0_1) rfl
def of0_2 : List IS := [il 5 (tg 1) (mLoad1 (tg 1)),
  ip 6 (pNilck (tg 5)),
  ip 7 (pFaddr 0 (tg 6)),
  il 8 (tg 7) (mLoad1 (tg 7)),
  ip 9 (pMov (tg 0)),
  ip 10 (pIaddrS 11 (tg 8) (tg 9)),
  il 11 (tg 10) (mLoadN 11 (tg 10)),
  im 1 4 (mAlloc [(.int .i64 0), (.int .i64 0), (.int .i64 0), (.int .i64 0), (.slice none 0 0), (.slice none 0 0), (.slice none 0 0), (.int .i64 0), (.int .i64 0), (.int .i64 0), (.int .i64 0)]),
  im0 3 (mStore 11 (tg 4) (tg 11))]
@[simp] def of0_2_ap := ops_rule (c := of0_2) rfl
def of0_3 : List IS := [ip 12 (pFaddr 0 (tg 4)),
  il 13 (tg 12) (mLoad1 (tg 12)),
  ip 14 (pBin .eql (tg 13) (cv (.int .i64 10))),
  ip 15 (pMov (tg 14)),
  gd 15 true (some 16) (ip 16 (pFaddr 5 (tg 4))),
  gd 15 true (some 17) (il 17 (tg 16) (mLoad1 (tg 16))),
  gd 15 true (some 18) (ip 18 (pFaddr 5 (tg 4))),
  gd 15 true (some 19) (il 19 (tg 18) (mLoad1 (tg 18))),
  gd 15 true (some 20) (ip 20 (pLen (tg 19))),
  gd 15 true (some 21) (ip 21 (pBin .sub (tg 20) (cv (.int .i64 1)))),
  gd 15 true (some 22) (ip 22 (pIaddrS 4 (tg 17) (tg 21))),
  gd 15 true (some 23) (ip 23 (pFaddr 0 (tg 22))),
  gd 15 true (some 24) (il 24 (tg 23) (mLoad1 (tg 23))),
  gd 15 true (some 25) (ip 25 (pBin .eql (tg 24) (cv (.int .i64 1)))),
  ip 26 (pPick (tg 15) (tg 25) (cv (.bool false))),
  ip 3 (pMov (tg 26))]
@[simp] def of0_3_ap := ops_rule (c := of0_3) rfl
def cf0_1 : SC := sSeq (sReg (seqI of0_3)) sRet
@[simp] def cf0_1_ap := seq_rule (c := cf0_1) rfl
def cf0_2 : SC := sSeq (sReg (seqI of0_2)) cf0_1
@[simp] def cf0_2_ap := seq_rule (c := cf0_2) rfl
def cf0_3 : SC := sSeq (sReg (seqI of0_1)) cf0_2
@[simp] def cf0_3_ap := seq_rule (c := cf0_3) rfl
def df0 : DFn := ⟨cf0_3, 27, [.t 3]⟩
theorem df0_ok : fnOf Tryz.prog 164 = some df0 := by kernel_rfl
def of1_1 : List IS := [ip 10 (pMov (tg 0)),
  ip 11 (pNilck (tg 10)),
  ip 12 (pFaddr 0 (tg 11)),
  il 13 (tg 12) (mLoad1 (tg 12)),
  ip 14 (pLen (tg 13)),
  ip 15 (pBin .add (tg 14) (cv (.int .i64 1))),
  im 1 16 (mMkslice 1 8 [(.int .i64 0)] (tg 15) (tg 15)),
  ip 4 (pMov (tg 16))]
@[simp] def of1_1_ap := ops_rule (c := of1_1) rfl
def of1_2 : List IS := [ip 5 (pMov (cv (.slice none 0 0)))]
@[simp] def of1_2_ap := ops_rule (c := of1_2) rfl
def of1_3 : List IS := [ip 17 (pMov (tg 0)),
  ip 18 (pNilck (tg 17)),
  ip 19 (pFaddr 0 (tg 18)),
  il 20 (tg 19) (mLoad1 (tg 19)),
  ip 21 (pLen (tg 20)),
  ip 22 (pMov (cv (.int .i64 0)))]
@[simp] def of1_3_ap := ops_rule (c := of1_3) rfl
def of1_4 : List IS := [ip 23 (pBin .lss (tg 22) (tg 21))]
@[simp] def of1_4_ap := ops_rule (c := of1_4) rfl
def cf1_1 : SC := sCond (tg 23) sSkip (sExit 0)
@[simp] def cf1_1_ap := cond_rule (c := cf1_1) rfl
def of1_5 : List IS := [ip 24 (pMov (tg 22)),
  ip 25 (pIaddrS 11 (tg 20) (tg 22)),
  il 26 (tg 25) (mLoadN 11 (tg 25)),
  im 1 7 (mAlloc [(.int .i64 0), (.int .i64 0), (.int .i64 0), (.int .i64 0), (.slice none 0 0), (.slice none 0 0), (.slice none 0 0), (.int .i64 0), (.int .i64 0), (.int .i64 0), (.int .i64 0)]),
  ip 6 (pMov (tg 24)),
  im0 3 (mStore 11 (tg 7) (tg 26))]
@[simp] def of1_5_ap := ops_rule (c := of1_5) rfl
def of1_6 : List IS := [ip 27 (pMov (tg 4)),
  ip 28 (pMov (tg 6)),
  ip 29 (pMov (tg 5)),
  ip 30 (pLen (tg 29)),
  ip 31 (pIaddrS 1 (tg 27) (tg 28)),
  im0 3 (mStore 1 (tg 31) (tg 30))]
@[simp] def of1_6_ap := ops_rule (c := of1_6) rfl
def of1_7 : List IS := [ip 32 (pMov (tg 1)),
  ip 33 (pMov (tg 6)),
  im 3 34 (mCallv (tg 32) [(tg 33)]),
  ip 35 (pUn .not (tg 34))]
@[simp] def of1_7_ap := ops_rule (c := of1_7) rfl
def of1_8 : List IS := [ip 36 (pMov (tg 5)),
  il 37 (tg 7) (mLoadN 11 (tg 7)),
  im 1 38 (mBslice 11 1 (rep 1 [(.int .i64 0), (.int .i64 0), (.int .i64 0), (.int .i64 0), (.slice none 0 0), (.slice none 0 0), (.slice none 0 0), (.int .i64 0), (.int .i64 0), (.int .i64 0), (.int .i64 0)]) [(0, 11, (tg 37))]),
  im 3 39 (mAppend 11 136 (tg 36) (tg 38)),
  ip 5 (pMov (tg 39))]
@[simp] def of1_8_ap := ops_rule (c := of1_8) rfl
def cf1_2 : SC := sCond (tg 35) (sReg (seqI of1_8)) sSkip
@[simp] def cf1_2_ap := cond_rule (c := cf1_2) rfl
def cf1_3 : SC := sSeq (sReg (seqI of1_7)) cf1_2
@[simp] def cf1_3_ap := seq_rule (c := cf1_3) rfl
def cf1_4 : SC := sSeq (sReg (seqI of1_6)) cf1_3
@[simp] def cf1_4_ap := seq_rule (c := cf1_4) rfl
def cf1_5 : SC := sSeq (sReg (seqI of1_5)) cf1_4
@[simp] def cf1_5_ap := seq_rule (c := cf1_5) rfl
def cf1_6 : SC := sBlock 1 cf1_5
@[simp] def cf1_6_ap := block_rule (c := cf1_6) rfl
def of1_9 : List IS := [ip 40 (pBin .add (tg 22) (cv (.int .i64 1))),
  ip 22 (pMov (tg 40))]
@[simp] def of1_9_ap := ops_rule (c := of1_9) rfl
def cf1_7 : SC := sSeq cf1_6 (sReg (seqI of1_9))
@[simp] def cf1_7_ap := seq_rule (c := cf1_7) rfl
def cf1_8 : SC := sSeq cf1_1 cf1_7
@[simp] def cf1_8_ap := seq_rule (c := cf1_8) rfl
def cf1_9 : SC := sSeq (sReg (seqI of1_4)) cf1_8
@[simp] def cf1_9_ap := seq_rule (c := cf1_9) rfl
def cf1_10 : SC := sLoop cf1_9
def cf1_11 : SC := sBlock 0 cf1_10
@[simp] def cf1_11_ap := block_rule (c := cf1_11) rfl
def cf1_12 : SC := sSeq (sReg (seqI of1_3)) cf1_11
@[simp] def cf1_12_ap := seq_rule (c := cf1_12) rfl
def of1_10 : List IS := [ip 41 (pMov (tg 4)),
  ip 42 (pMov (tg 0)),
  ip 43 (pNilck (tg 42)),
  ip 44 (pFaddr 0 (tg 43)),
  il 45 (tg 44) (mLoad1 (tg 44)),
  ip 46 (pLen (tg 45)),
  ip 47 (pMov (tg 5)),
  ip 48 (pLen (tg 47)),
  ip 49 (pIaddrS 1 (tg 41) (tg 46)),
  im0 3 (mStore 1 (tg 49) (tg 48))]
@[simp] def of1_10_ap := ops_rule (c := of1_10) rfl
def of1_11 : List IS := [ip 50 (pMov (tg 5)),
  ip 51 (pLen (tg 50)),
  ip 52 (pMov (cv (.int .i64 0)))]
@[simp] def of1_11_ap := ops_rule (c := of1_11) rfl
def of1_12 : List IS := [ip 53 (pBin .lss (tg 52) (tg 51))]
@[simp] def of1_12_ap := ops_rule (c := of1_12) rfl
def cf1_13 : SC := sCond (tg 53) sSkip (sExit 2)
@[simp] def cf1_13_ap := cond_rule (c := cf1_13) rfl
def of1_13 : List IS := [ip 54 (pMov (tg 52)),
  ip 55 (pIaddrS 11 (tg 50) (tg 52)),
  il 56 (tg 55) (mLoadN 11 (tg 55)),
  im 1 9 (mAlloc [(.int .i64 0), (.int .i64 0), (.int .i64 0), (.int .i64 0), (.slice none 0 0), (.slice none 0 0), (.slice none 0 0), (.int .i64 0), (.int .i64 0), (.int .i64 0), (.int .i64 0)]),
  ip 8 (pMov (tg 54)),
  im0 3 (mStore 11 (tg 9) (tg 56))]
@[simp] def of1_13_ap := ops_rule (c := of1_13) rfl
def of1_14 : List IS := [ip 57 (pFaddr 0 (tg 9)),
  il 58 (tg 57) (mLoad1 (tg 57)),
  ip 59 (pBin .eql (tg 58) (cv (.int .i64 9))),
  ip 60 (pMov (tg 59)),
  gd 60 false (some 61) (ip 61 (pFaddr 0 (tg 9))),
  gd 60 false (some 62) (il 62 (tg 61) (mLoad1 (tg 61))),
  gd 60 false (some 63) (ip 63 (pBin .eql (tg 62) (cv (.int .i64 10)))),
  ip 64 (pPick (tg 60) (cv (.bool true)) (tg 63))]
@[simp] def of1_14_ap := ops_rule (c := of1_14) rfl
def of1_15 : List IS := [ip 65 (pMov (tg 5)),
  ip 66 (pMov (tg 8)),
  ip 67 (pMov (tg 4)),
  ip 68 (pFaddr 8 (tg 9)),
  il 69 (tg 68) (mLoad1 (tg 68)),
  ip 70 (pIaddrS 1 (tg 67) (tg 69)),
  il 71 (tg 70) (mLoad1 (tg 70)),
  ip 72 (pIaddrS 11 (tg 65) (tg 66)),
  ip 73 (pFaddr 8 (tg 72)),
  im0 3 (mStore 1 (tg 73) (tg 71))]
@[simp] def of1_15_ap := ops_rule (c := of1_15) rfl
def cf1_14 : SC := sCond (tg 64) (sReg (seqI of1_15)) sSkip
@[simp] def cf1_14_ap := cond_rule (c := cf1_14) rfl
def cf1_15 : SC := sSeq (sReg (seqI of1_14)) cf1_14
@[simp] def cf1_15_ap := seq_rule (c := cf1_15) rfl
def cf1_16 : SC := sSeq (sReg (seqI of1_13)) cf1_15
@[simp] def cf1_16_ap := seq_rule (c := cf1_16) rfl
def cf1_17 : SC := sBlock 3 cf1_16
@[simp] def cf1_17_ap := block_rule (c := cf1_17) rfl
def of1_16 : List IS := [ip 74 (pBin .add (tg 52) (cv (.int .i64 1))),
  ip 52 (pMov (tg 74))]
@[simp] def of1_16_ap := ops_rule (c := of1_16) rfl
def cf1_18 : SC := sSeq cf1_17 (sReg (seqI of1_16))
@[simp] def cf1_18_ap := seq_rule (c := cf1_18) rfl
def cf1_19 : SC := sSeq cf1_13 cf1_18
@[simp] def cf1_19_ap := seq_rule (c := cf1_19) rfl
def cf1_20 : SC := sSeq (sReg (seqI of1_12)) cf1_19
@[simp] def cf1_20_ap := seq_rule (c := cf1_20) rfl
def cf1_21 : SC := sLoop cf1_20
def cf1_22 : SC := sBlock 2 cf1_21
@[simp] def cf1_22_ap := block_rule (c := cf1_22) rfl
def cf1_23 : SC := sSeq (sReg (seqI of1_11)) cf1_22
@[simp] def cf1_23_ap := seq_rule (c := cf1_23) rfl
def of1_17 : List IS := [ip 75 (pMov (tg 0)),
  ip 76 (pMov (tg 5)),
  ip 77 (pNilck (tg 75)),
  ip 78 (pFaddr 0 (tg 77)),
  im0 3 (mStore 1 (tg 78) (tg 76))]
@[simp] def of1_17_ap := ops_rule (c := of1_17) rfl
def cf1_24 : SC := sSeq cf1_23 (sReg (seqI of1_17))
@[simp] def cf1_24_ap := seq_rule (c := cf1_24) rfl
def cf1_25 : SC := sSeq (sReg (seqI of1_10)) cf1_24
@[simp] def cf1_25_ap := seq_rule (c := cf1_25) rfl
def cf1_26 : SC := sSeq cf1_12 cf1_25
@[simp] def cf1_26_ap := seq_rule (c := cf1_26) rfl
def cf1_27 : SC := sSeq (sReg (seqI of1_2)) cf1_26
@[simp] def cf1_27_ap := seq_rule (c := cf1_27) rfl
def cf1_28 : SC := sSeq (sReg (seqI of1_1)) cf1_27
@[simp] def cf1_28_ap := seq_rule (c := cf1_28) rfl
def df1 : DFn := ⟨cf1_28, 79, []⟩
theorem df1_ok : fnOf Tryz.prog 165 = some df1 := by kernel_rfl
def of2_1 : List IS := [ip 3 (pMov (cv (.bool false)))]
@[simp] def of2_1_ap := ops_rule (c := of2_1) rfl
def of2_2 : List IS := [il 4 (tg 1) (mLoad1 (tg 1)),
  ip 5 (pMov (tg 0)),
  ip 6 (pIaddrS 1 (tg 4) (tg 5)),
  il 7 (tg 6) (mLoad1 (tg 6)),
  ip 8 (pUn .not (tg 7)),
  ip 3 (pMov (tg 8))]
@[simp] def of2_2_ap := ops_rule (c := of2_2) rfl
def cf2_1 : SC := sSeq (sReg (seqI of2_2)) sRet
@[simp] def cf2_1_ap := seq_rule (c := cf2_1) rfl
def cf2_2 : SC := sSeq (sReg (seqI of2_1)) cf2_1
@[simp] def cf2_2_ap := seq_rule (c := cf2_2) rfl
def df2 : DFn := ⟨cf2_2, 9, [.t 3]⟩
theorem df2_ok : fnOf Tryz.prog 166 = some df2 := by kernel_rfl
def of3_1 : List IS := [ip 3 (pMov (cv (.bool false)))]
@[simp] def of3_1_ap := ops_rule (c := of3_1) rfl
def of3_2 : List IS := [il 4 (tg 1) (mLoad1 (tg 1)),
  ip 5 (pNilck (tg 4)),
  ip 6 (pFaddr 0 (tg 5)),
  il 7 (tg 6) (mLoad1 (tg 6)),
  ip 8 (pMov (tg 0)),
  ip 9 (pIaddrS 11 (tg 7) (tg 8)),
  ip 10 (pFaddr 0 (tg 9)),
  il 11 (tg 10) (mLoad1 (tg 10)),
  ip 12 (pBin .eql (tg 11) (cv (.int .i64 9))),
  ip 13 (pMov (tg 12)),
  gd 13 true (some 14) (il 14 (tg 1) (mLoad1 (tg 1))),
  gd 13 true (some 15) (ip 15 (pNilck (tg 14))),
  gd 13 true (some 16) (ip 16 (pFaddr 0 (tg 15))),
  gd 13 true (some 17) (il 17 (tg 16) (mLoad1 (tg 16))),
  gd 13 true (some 18) (ip 18 (pMov (tg 0))),
  gd 13 true (some 19) (ip 19 (pIaddrS 11 (tg 17) (tg 18))),
  gd 13 true (some 20) (ip 20 (pFaddr 8 (tg 19))),
  gd 13 true (some 21) (il 21 (tg 20) (mLoad1 (tg 20))),
  gd 13 true (some 22) (ip 22 (pMov (tg 0))),
  gd 13 true (some 23) (ip 23 (pBin .add (tg 22) (cv (.int .i64 1)))),
  gd 13 true (some 24) (ip 24 (pBin .eql (tg 21) (tg 23))),
  ip 25 (pPick (tg 13) (tg 24) (cv (.bool false))),
  ip 3 (pMov (tg 25))]
@[simp] def of3_2_ap := ops_rule (c := of3_2) rfl
def cf3_1 : SC := sSeq (sReg (seqI of3_2)) sRet
@[simp] def cf3_1_ap := seq_rule (c := cf3_1) rfl
def cf3_2 : SC := sSeq (sReg (seqI of3_1)) cf3_1
@[simp] def cf3_2_ap := seq_rule (c := cf3_2) rfl
def df3 : DFn := ⟨cf3_2, 26, [.t 3]⟩
theorem df3_ok : fnOf Tryz.prog 167 = some df3 := by kernel_rfl
def of4_1 : List IS := [im 1 1 (mBox (tg 0)),
  ip 2 (pMov (cv (.bool false)))]
@[simp] def of4_1_ap := ops_rule (c := of4_1) rfl
def of4_2 : List IS := [ip 3 (pFaddr 0 (tg 1)),
  il 4 (tg 3) (mLoad1 (tg 3)),
  ip 5 (pBin .eql (tg 4) (cv (.int .i64 2))),
  ip 6 (pMov (tg 5)),
  gd 6 false (some 7) (ip 7 (pFaddr 0 (tg 1))),
  gd 6 false (some 8) (il 8 (tg 7) (mLoad1 (tg 7))),
  gd 6 false (some 9) (ip 9 (pBin .eql (tg 8) (cv (.int .i64 3)))),
  ip 10 (pPick (tg 6) (cv (.bool true)) (tg 9)),
  ip 11 (pMov (tg 10)),
  gd 11 true (some 12) (ip 12 (pFaddr 3 (tg 1))),
  gd 11 true (some 13) (il 13 (tg 12) (mLoad1 (tg 12))),
  gd 11 true (some 14) (ip 14 (pBin .eql (tg 13) (cv (.int .i64 0)))),
  ip 15 (pPick (tg 11) (tg 14) (cv (.bool false))),
  ip 16 (pMov (tg 15)),
  gd 16 true (some 17) (ip 17 (pFaddr 7 (tg 1))),
  gd 16 true (some 18) (il 18 (tg 17) (mLoad1 (tg 17))),
  gd 16 true (some 19) (ip 19 (pBin .eql (tg 18) (cv (.int .i64 1)))),
  ip 20 (pPick (tg 16) (tg 19) (cv (.bool false))),
  ip 2 (pMov (tg 20))]
@[simp] def of4_2_ap := ops_rule (c := of4_2) rfl
def cf4_1 : SC := sSeq (sReg (seqI of4_2)) sRet
@[simp] def cf4_1_ap := seq_rule (c := cf4_1) rfl
def cf4_2 : SC := sSeq (sReg (seqI of4_1)) cf4_1
@[simp] def cf4_2_ap := seq_rule (c := cf4_2) rfl
def df4 : DFn := ⟨cf4_2, 21, [.t 2]⟩
theorem df4_ok : fnOf Tryz.prog 168 = some df4 := by kernel_rfl
def of5_1 : List IS := [ip 3 (pMov (cv (.bool false)))]
@[simp] def of5_1_ap := ops_rule (c := of5_1) rfl
def of5_2 : List IS := [il 4 (tg 1) (mLoad1 (tg 1)),
  ip 5 (pMov (tg 0)),
  ip 6 (pIaddrS 1 (tg 4) (tg 5)),
  il 7 (tg 6) (mLoad1 (tg 6)),
  ip 3 (pMov (tg 7))]
@[simp] def of5_2_ap := ops_rule (c := of5_2) rfl
def cf5_1 : SC := sSeq (sReg (seqI of5_2)) sRet
@[simp] def cf5_1_ap := seq_rule (c := cf5_1) rfl
def cf5_2 : SC := sSeq (sReg (seqI of5_1)) cf5_1
@[simp] def cf5_2_ap := seq_rule (c := cf5_2) rfl
def df5 : DFn := ⟨cf5_2, 8, [.t 3]⟩
theorem df5_ok : fnOf Tryz.prog 169 = some df5 := by kernel_rfl
end
end Go.Sx
