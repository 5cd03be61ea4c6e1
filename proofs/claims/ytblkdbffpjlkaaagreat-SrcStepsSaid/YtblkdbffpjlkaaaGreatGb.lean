/- Compiled code. -/
import Derived.Test.YtblkdbffpjlkaaaGreatGa
import Derived.Test.YtblkdbffpjlkaaaGreatProg
import Derived.KernelRfl
set_option linter.unusedVariables false
set_option linter.unusedSimpArgs false
set_option linter.defProp false
/- Compiled code: printed by a program. -/
namespace Go.Sx
open Go.Dx Go.Proofs
noncomputable section
def oa2_1 : List IS := [ip 4 (pMov (cv (.bool false)))]
@[simp] def oa2_1_ap := ops_rule (c := oa2_1) rfl
def oa2_2 : List IS := [ip 6 (pMov (tg 0)),
  ip 7 (pLen (tg 6)),
  ip 8 (pMov (tg 1)),
  ip 9 (pLen (tg 8)),
  ip 10 (pBin .neq (tg 7) (tg 9))]
@[simp] def oa2_2_ap := ops_rule (c := oa2_2) rfl
def oa2_3 : List IS := [ip 4 (pMov (cv (.bool false)))]
def ca2_1 : SC := sSeq (sReg (seqI oa2_3)) sRet
def ca2_2 : SC := sCond (tg 10) ca2_1 sSkip
@[simp] def ca2_2_ap := cond_rule (c := ca2_2) rfl
def ca2_3 : SC := sSeq (sReg (seqI oa2_2)) ca2_2
@[simp] def ca2_3_ap := seq_rule (c := ca2_3) rfl
def oa2_4 : List IS := [ip 5 (pMov (cv (.int .i64 0)))]
@[simp] def oa2_4_ap := ops_rule (c := oa2_4) rfl
def oa2_5 : List IS := [ip 11 (pMov (tg 5)),
  ip 12 (pMov (tg 0)),
  ip 13 (pLen (tg 12)),
  ip 14 (pBin .lss (tg 11) (tg 13))]
@[simp] def oa2_5_ap := ops_rule (c := oa2_5) rfl
def ca2_4 : SC := sCond (tg 14) sSkip (sExit 0)
@[simp] def ca2_4_ap := cond_rule (c := ca2_4) rfl
def ca2_5 : SC := sSeq (sReg (seqI oa2_5)) ca2_4
@[simp] def ca2_5_ap := seq_rule (c := ca2_5) rfl
def oa2_6 : List DA := [⟨CI.pure (pMov (tg 0)), (some 17), none, 0, []⟩,
  ⟨CI.pure (pMov (tg 5)), (some 18), none, 1, []⟩,
  ⟨CI.pure (pIaddrS 1 (tg 17) (tg 18)), (some 19), none, 2, []⟩,
  ⟨CI.load (tg 19) (mLoad1 (tg 19)), (some 20), none, 3, []⟩,
  ⟨CI.pure (pMov (tg 1)), (some 21), none, 4, []⟩,
  ⟨CI.pure (pMov (tg 5)), (some 22), none, 5, []⟩,
  ⟨CI.pure (pIaddrS 1 (tg 21) (tg 22)), (some 23), none, 6, []⟩,
  ⟨CI.load (tg 23) (mLoad1 (tg 23)), (some 24), none, 7, []⟩,
  ⟨CI.pure (pBin .neq (tg 20) (tg 24)), (some 25), none, 8, []⟩]
@[simp] def oa2_6_ap := das_rule (c := oa2_6) rfl
def oa2_7 : List IS := [ip 4 (pMov (cv (.bool false)))]
def ca2_6 : SC := sSeq (sReg (seqI oa2_7)) sRet
def ca2_7 : SC := sCond (tg 25) ca2_6 sSkip
@[simp] def ca2_7_ap := cond_rule (c := ca2_7) rfl
def ca2_8 : SC := sSeq (sAny oa2_6) ca2_7
@[simp] def ca2_8_ap := seq_rule (c := ca2_8) rfl
def ca2_9 : SC := sBlock 1 ca2_8
@[simp] def ca2_9_ap := block_rule (c := ca2_9) rfl
def oa2_8 : List IS := [ip 15 (pMov (tg 5)),
  ip 16 (pBin .add (tg 15) (cv (.int .i64 1))),
  ip 5 (pMov (tg 16))]
@[simp] def oa2_8_ap := ops_rule (c := oa2_8) rfl
def ca2_10 : SC := sSeq ca2_9 (sReg (seqI oa2_8))
@[simp] def ca2_10_ap := seq_rule (c := ca2_10) rfl
def ca2_11 : SC := sSeq ca2_5 ca2_10
@[simp] def ca2_11_ap := seq_rule (c := ca2_11) rfl
def ca2_12 : SC := sLoop ca2_11
def ca2_13 : SC := sBlock 0 ca2_12
@[simp] def ca2_13_ap := block_rule (c := ca2_13) rfl
def ca2_14 : SC := sSeq (sReg (seqI oa2_4)) ca2_13
@[simp] def ca2_14_ap := seq_rule (c := ca2_14) rfl
def oa2_9 : List IS := [ip 4 (pMov (cv (.bool true)))]
@[simp] def oa2_9_ap := ops_rule (c := oa2_9) rfl
def ca2_15 : SC := sSeq (sReg (seqI oa2_9)) sRet
@[simp] def ca2_15_ap := seq_rule (c := ca2_15) rfl
def ca2_16 : SC := sSeq ca2_14 ca2_15
@[simp] def ca2_16_ap := seq_rule (c := ca2_16) rfl
def ca2_17 : SC := sSeq ca2_3 ca2_16
@[simp] def ca2_17_ap := seq_rule (c := ca2_17) rfl
def ca2_18 : SC := sSeq (sReg (seqI oa2_1)) ca2_17
@[simp] def ca2_18_ap := seq_rule (c := ca2_18) rfl
def da2 : DFn := ⟨ca2_18, 26, [.t 4]⟩
theorem da2_ok : fnOf Tryz.prog 10 = some da2 := by kernel_rfl
def oa3_1 : List IS := [im 1 2 (mBox (tg 0)),
  ip 4 (pMov (cv (.pointer none))),
  ip 5 (pMov (cv (.int .i64 0)))]
@[simp] def oa3_1_ap := ops_rule (c := oa3_1) rfl
def oa3_2 : List IS := [il 9 (tg 2) (mLoadN 2 (tg 2)),
  im 3 10 (mCall 34 [(tg 9)]),
  ip 11 (pUn .not (tg 10)),
  ip 12 (pMov (tg 11)),
  gd 12 false (some 13) (ip 13 (pMov (tg 1))),
  gd 12 false (some 14) (ip 14 (pBin .lss (tg 13) (cv (.int .i64 0)))),
  ip 15 (pPick (tg 12) (cv (.bool true)) (tg 14)),
  ip 16 (pMov (tg 15)),
  gd 16 false (some 17) (ip 17 (pMov (tg 1))),
  gd 16 false (some 18) (ip 18 (pFaddr 1 (tg 2))),
  gd 16 false (some 19) (il 19 (tg 18) (mLoad1 (tg 18))),
  gd 16 false (some 20) (ip 20 (pLen (tg 19))),
  gd 16 false (some 21) (ip 21 (pBin .geq (tg 17) (tg 20))),
  ip 22 (pPick (tg 16) (cv (.bool true)) (tg 21))]
@[simp] def oa3_2_ap := ops_rule (c := oa3_2) rfl
def oa3_3 : List IS := [ip 4 (pMov (cv (.pointer none))),
  ip 5 (pMov (cv (.int .i64 1)))]
@[simp] def oa3_3_ap := ops_rule (c := oa3_3) rfl
def ca3_1 : SC := sSeq (sReg (seqI oa3_3)) sRet
@[simp] def ca3_1_ap := seq_rule (c := ca3_1) rfl
def ca3_2 : SC := sCond (tg 22) ca3_1 sSkip
@[simp] def ca3_2_ap := cond_rule (c := ca3_2) rfl
def ca3_3 : SC := sSeq (sReg (seqI oa3_2)) ca3_2
@[simp] def ca3_3_ap := seq_rule (c := ca3_3) rfl
def oa3_4 : List IS := [ip 23 (pFaddr 1 (tg 2)),
  il 24 (tg 23) (mLoad1 (tg 23)),
  ip 25 (pMov (tg 1)),
  ip 26 (pIaddrS 2 (tg 24) (tg 25)),
  il 27 (tg 26) (mLoadN 2 (tg 26)),
  im 1 6 (mAlloc [(.int .i64 0), (.slice none 0 0)]),
  im0 3 (mStore 2 (tg 6) (tg 27))]
@[simp] def oa3_4_ap := ops_rule (c := oa3_4) rfl
def oa3_5 : List IS := [ip 28 (pFaddr 1 (tg 6)),
  il 29 (tg 28) (mLoad1 (tg 28)),
  im 3 30 (mCall 35 [(tg 29)]),
  ip 31 (pFaddr 1 (tg 6)),
  im0 3 (mStore 1 (tg 31) (tg 30))]
@[simp] def oa3_5_ap := ops_rule (c := oa3_5) rfl
def oa3_6 : List IS := [ip 32 (pFaddr 1 (tg 6)),
  il 33 (tg 32) (mLoad1 (tg 32)),
  ip 34 (pLen (tg 33)),
  ip 35 (pMov (cv (.int .i64 0)))]
@[simp] def oa3_6_ap := ops_rule (c := oa3_6) rfl
def oa3_7 : List IS := [ip 36 (pBin .lss (tg 35) (tg 34))]
@[simp] def oa3_7_ap := ops_rule (c := oa3_7) rfl
def ca3_4 : SC := sCond (tg 36) sSkip (sExit 0)
@[simp] def ca3_4_ap := cond_rule (c := ca3_4) rfl
def oa3_8 : List IS := [ip 37 (pMov (tg 35)),
  ip 38 (pIaddrS 11 (tg 33) (tg 35)),
  il 39 (tg 38) (mLoadN 11 (tg 38)),
  im 1 8 (mAlloc [(.int .i64 0), (.int .i64 0), (.int .i64 0), (.int .i64 0), (.slice none 0 0), (.slice none 0 0), (.slice none 0 0), (.int .i64 0), (.int .i64 0), (.int .i64 0), (.int .i64 0)]),
  ip 7 (pMov (tg 37)),
  im0 3 (mStore 11 (tg 8) (tg 39))]
@[simp] def oa3_8_ap := ops_rule (c := oa3_8) rfl
def oa3_9 : List DA := [⟨CI.pure (pFaddr 1 (tg 6)), (some 40), none, 0, []⟩,
  ⟨CI.load (tg 40) (mLoad1 (tg 40)), (some 41), none, 1, []⟩,
  ⟨CI.pure (pMov (tg 7)), (some 42), none, 2, []⟩,
  ⟨CI.pure (pFaddr 1 (tg 6)), (some 43), none, 3, []⟩,
  ⟨CI.load (tg 43) (mLoad1 (tg 43)), (some 44), none, 4, []⟩,
  ⟨CI.pure (pMov (tg 7)), (some 45), none, 5, []⟩,
  ⟨CI.pure (pFaddr 1 (tg 6)), (some 46), none, 6, []⟩,
  ⟨CI.load (tg 46) (mLoad1 (tg 46)), (some 47), none, 7, []⟩,
  ⟨CI.pure (pMov (tg 7)), (some 48), none, 8, []⟩,
  ⟨CI.pure (pFaddr 5 (tg 8)), (some 49), none, 9, []⟩,
  ⟨CI.load (tg 49) (mLoad1 (tg 49)), (some 50), none, 10, []⟩,
  ⟨CI.mem 3 (mCall 36 [(tg 50)]), (some 51), none, 11, [1, 4, 7]⟩,
  ⟨CI.pure (pFaddr 6 (tg 8)), (some 52), none, 12, []⟩,
  ⟨CI.load (tg 52) (mLoad1 (tg 52)), (some 53), none, 13, [11]⟩,
  ⟨CI.mem 3 (mCall 36 [(tg 53)]), (some 54), none, 14, [1, 4, 7]⟩,
  ⟨CI.pure (pFaddr 4 (tg 8)), (some 55), none, 15, []⟩,
  ⟨CI.load (tg 55) (mLoad1 (tg 55)), (some 56), none, 16, [11, 14]⟩,
  ⟨CI.mem 3 (mCall 36 [(tg 56)]), (some 57), none, 17, [1, 4, 7]⟩,
  ⟨CI.pure (pIaddrS 11 (tg 41) (tg 42)), (some 58), none, 18, []⟩,
  ⟨CI.pure (pFaddr 5 (tg 58)), (some 59), none, 19, []⟩,
  ⟨CI.mem 3 (mStore 1 (tg 59) (tg 51)), none, none, 20, [4, 7]⟩,
  ⟨CI.pure (pIaddrS 11 (tg 44) (tg 45)), (some 60), none, 21, []⟩,
  ⟨CI.pure (pFaddr 6 (tg 60)), (some 61), none, 22, []⟩,
  ⟨CI.mem 3 (mStore 1 (tg 61) (tg 54)), none, none, 23, [7]⟩,
  ⟨CI.pure (pIaddrS 11 (tg 47) (tg 48)), (some 62), none, 24, []⟩,
  ⟨CI.pure (pFaddr 4 (tg 62)), (some 63), none, 25, []⟩,
  ⟨CI.mem 3 (mStore 1 (tg 63) (tg 57)), none, none, 26, []⟩]
@[simp] def oa3_9_ap := das_rule (c := oa3_9) rfl
def ca3_5 : SC := sSeq (sReg (seqI oa3_8)) (sAny oa3_9)
@[simp] def ca3_5_ap := seq_rule (c := ca3_5) rfl
def ca3_6 : SC := sBlock 1 ca3_5
@[simp] def ca3_6_ap := block_rule (c := ca3_6) rfl
def oa3_10 : List IS := [ip 64 (pBin .add (tg 35) (cv (.int .i64 1))),
  ip 35 (pMov (tg 64))]
@[simp] def oa3_10_ap := ops_rule (c := oa3_10) rfl
def ca3_7 : SC := sSeq ca3_6 (sReg (seqI oa3_10))
@[simp] def ca3_7_ap := seq_rule (c := ca3_7) rfl
def ca3_8 : SC := sSeq ca3_4 ca3_7
@[simp] def ca3_8_ap := seq_rule (c := ca3_8) rfl
def ca3_9 : SC := sSeq (sReg (seqI oa3_7)) ca3_8
@[simp] def ca3_9_ap := seq_rule (c := ca3_9) rfl
def ca3_10 : SC := sLoop ca3_9
def ca3_11 : SC := sBlock 0 ca3_10
@[simp] def ca3_11_ap := block_rule (c := ca3_11) rfl
def ca3_12 : SC := sSeq (sReg (seqI oa3_6)) ca3_11
@[simp] def ca3_12_ap := seq_rule (c := ca3_12) rfl
def oa3_11 : List DA := [⟨CI.load (tg 6) (mLoadN 2 (tg 6)), (some 65), none, 0, []⟩,
  ⟨CI.pure (pFaddr 0 (tg 6)), (some 66), none, 1, []⟩,
  ⟨CI.load (tg 66) (mLoad1 (tg 66)), (some 67), none, 2, []⟩,
  ⟨CI.mem 1 (mMkslice 1 8 [(.int .u64 0)] (tg 67) (tg 67)), (some 68), none, 3, []⟩,
  ⟨CI.pure (pBuild [(.int .i64 0), (.slice none 0 0), (.int .i64 0), (.slice none 0 0), (.int .i64 0), (.int .i64 0), (.int .i64 0), (.int .u64 0), (.bool false), (.bool false), (.bool false), (.int .u64 0), (.bool false)] [(0, 2, (tg 65)), (3, 1, (tg 68))]), (some 69), none, 4, []⟩,
  ⟨CI.mem 1 (mBox (tg 69)), (some 70), none, 5, []⟩,
  ⟨CI.pure (pMov (tg 70)), (some 4), none, 6, []⟩,
  ⟨CI.pure (pMov (cv (.int .i64 0))), (some 5), none, 7, []⟩]
@[simp] def oa3_11_ap := das_rule (c := oa3_11) rfl
def ca3_13 : SC := sSeq (sAny oa3_11) sRet
@[simp] def ca3_13_ap := seq_rule (c := ca3_13) rfl
def ca3_14 : SC := sSeq ca3_12 ca3_13
@[simp] def ca3_14_ap := seq_rule (c := ca3_14) rfl
def ca3_15 : SC := sSeq (sReg (seqI oa3_5)) ca3_14
@[simp] def ca3_15_ap := seq_rule (c := ca3_15) rfl
def ca3_16 : SC := sSeq (sReg (seqI oa3_4)) ca3_15
@[simp] def ca3_16_ap := seq_rule (c := ca3_16) rfl
def ca3_17 : SC := sSeq ca3_3 ca3_16
@[simp] def ca3_17_ap := seq_rule (c := ca3_17) rfl
def ca3_18 : SC := sSeq (sReg (seqI oa3_1)) ca3_17
@[simp] def ca3_18_ap := seq_rule (c := ca3_18) rfl
def da3 : DFn := ⟨ca3_18, 71, [.t 4, .t 5]⟩
theorem da3_ok : fnOf Tryz.prog 12 = some da3 := by kernel_rfl
def oa5_1 : List IS := [ip 4 (pMov (cv (.int .i64 0)))]
@[simp] def oa5_1_ap := ops_rule (c := oa5_1) rfl
def oa5_2 : List IS := [ip 6 (pMov (tg 0)),
  ip 7 (pNilck (tg 6)),
  ip 8 (pFaddr 10 (tg 7)),
  il 9 (tg 8) (mLoad1 (tg 8)),
  ip 10 (pUn .not (tg 9)),
  ip 11 (pMov (tg 10)),
  gd 11 false (some 12) (ip 12 (pMov (tg 0))),
  gd 11 false (some 13) (ip 13 (pNilck (tg 12))),
  gd 11 false (some 14) (ip 14 (pFaddr 4 (tg 13))),
  gd 11 false (some 15) (ip 15 (pFaddr 0 (tg 14))),
  gd 11 false (some 16) (il 16 (tg 15) (mLoad1 (tg 15))),
  gd 11 false (some 17) (ip 17 (pBin .eql (tg 16) (cv (.int .i64 5)))),
  ip 18 (pPick (tg 11) (cv (.bool true)) (tg 17)),
  ip 19 (pMov (tg 18)),
  gd 19 false (some 20) (ip 20 (pMov (tg 0))),
  gd 19 false (some 21) (ip 21 (pNilck (tg 20))),
  gd 19 false (some 22) (ip 22 (pFaddr 4 (tg 21))),
  gd 19 false (some 23) (ip 23 (pFaddr 0 (tg 22))),
  gd 19 false (some 24) (il 24 (tg 23) (mLoad1 (tg 23))),
  gd 19 false (some 25) (ip 25 (pBin .eql (tg 24) (cv (.int .i64 6)))),
  ip 26 (pPick (tg 19) (cv (.bool true)) (tg 25))]
@[simp] def oa5_2_ap := ops_rule (c := oa5_2) rfl
def oa5_3 : List IS := [ip 4 (pMov (cv (.int .i64 1)))]
@[simp] def oa5_3_ap := ops_rule (c := oa5_3) rfl
def ca5_1 : SC := sSeq (sReg (seqI oa5_3)) sRet
@[simp] def ca5_1_ap := seq_rule (c := ca5_1) rfl
def ca5_2 : SC := sCond (tg 26) ca5_1 sSkip
@[simp] def ca5_2_ap := cond_rule (c := ca5_2) rfl
def ca5_3 : SC := sSeq (sReg (seqI oa5_2)) ca5_2
@[simp] def ca5_3_ap := seq_rule (c := ca5_3) rfl
def oa5_4 : List IS := [ip 27 (pMov (tg 0)),
  ip 28 (pNilck (tg 27)),
  ip 29 (pFaddr 10 (tg 28)),
  im0 3 (mStore 1 (tg 29) (cv (.bool false)))]
@[simp] def oa5_4_ap := ops_rule (c := oa5_4) rfl
def oa5_5 : List IS := [ip 30 (pMov (tg 0)),
  im 3 31 (mCall 26 [(tg 30)]),
  im 1 5 (mAlloc [(.int .i64 0), (.int .i64 0), (.int .i64 0), (.int .i64 0), (.slice none 0 0), (.slice none 0 0), (.slice none 0 0), (.int .i64 0), (.int .i64 0), (.int .i64 0), (.int .i64 0)]),
  im0 3 (mStore 11 (tg 5) (tg 31))]
@[simp] def oa5_5_ap := ops_rule (c := oa5_5) rfl
def oa5_6 : List IS := [ip 32 (pMov (tg 0)),
  ip 33 (pNilck (tg 32)),
  ip 34 (pFaddr 4 (tg 33)),
  ip 35 (pFaddr 0 (tg 34)),
  il 36 (tg 35) (mLoad1 (tg 35)),
  ip 37 (pBin .eql (tg 36) (cv (.int .i64 1))),
  ip 38 (pMov (tg 37)),
  gd 38 true (some 39) (ip 39 (pMov (tg 0))),
  gd 38 true (some 40) (ip 40 (pNilck (tg 39))),
  gd 38 true (some 41) (ip 41 (pFaddr 4 (tg 40))),
  gd 38 true (some 42) (ip 42 (pFaddr 4 (tg 41))),
  gd 38 true (some 43) (il 43 (tg 42) (mLoad1 (tg 42))),
  ip 44 (pPick (tg 38) (tg 43) (cv (.bool false)))]
@[simp] def oa5_6_ap := ops_rule (c := oa5_6) rfl
def oa5_7 : List IS := [ip 45 (pMov (tg 0)),
  ip 46 (pMov (tg 1)),
  ip 47 (pNilck (tg 45)),
  ip 48 (pFaddr 11 (tg 47)),
  im0 3 (mStore 1 (tg 48) (tg 46))]
@[simp] def oa5_7_ap := ops_rule (c := oa5_7) rfl
def oa5_8 : List DA := [⟨CI.pure (pFaddr 0 (tg 5)), (some 49), none, 0, []⟩,
  ⟨CI.load (tg 49) (mLoad1 (tg 49)), (some 50), none, 1, []⟩,
  ⟨CI.pure (pBin .neq (tg 50) (cv (.int .i64 6))), (some 51), none, 2, []⟩,
  ⟨CI.pure (pMov (tg 51)), (some 52), none, 3, []⟩,
  ⟨CI.pure (pFaddr 5 (tg 5)), (some 53), (some (52, false)), 4, []⟩,
  ⟨CI.load (tg 53) (mLoad1 (tg 53)), (some 54), (some (52, false)), 5, []⟩,
  ⟨CI.pure (pMov (tg 0)), (some 55), (some (52, false)), 6, []⟩,
  ⟨CI.pure (pNilck (tg 55)), (some 56), (some (52, false)), 7, []⟩,
  ⟨CI.pure (pFaddr 3 (tg 56)), (some 57), (some (52, false)), 8, []⟩,
  ⟨CI.load (tg 57) (mLoad1 (tg 57)), (some 58), (some (52, false)), 9, []⟩,
  ⟨CI.mem 3 (mCall 38 [(tg 54), (tg 58)]), (some 59), (some (52, false)), 10, []⟩,
  ⟨CI.pure (pMov (tg 1)), (some 60), (some (52, false)), 11, []⟩,
  ⟨CI.pure (pBin .eql (tg 59) (tg 60)), (some 61), (some (52, false)), 12, []⟩,
  ⟨CI.pure (pPick (tg 52) (cv (.bool true)) (tg 61)), (some 62), none, 13, []⟩]
@[simp] def oa5_8_ap := das_rule (c := oa5_8) rfl
def oa5_9 : List IS := [ip 63 (pMov (tg 0)),
  ip 64 (pNilck (tg 63)),
  ip 65 (pFaddr 12 (tg 64)),
  im0 3 (mStore 1 (tg 65) (cv (.bool true)))]
@[simp] def oa5_9_ap := ops_rule (c := oa5_9) rfl
def oa5_10 : List IS := [ip 4 (pMov (cv (.int .i64 0)))]
@[simp] def oa5_10_ap := ops_rule (c := oa5_10) rfl
def ca5_4 : SC := sSeq (sReg (seqI oa5_10)) sRet
@[simp] def ca5_4_ap := seq_rule (c := ca5_4) rfl
def ca5_5 : SC := sSeq (sReg (seqI oa5_9)) ca5_4
@[simp] def ca5_5_ap := seq_rule (c := ca5_5) rfl
def ca5_6 : SC := sCond (tg 62) ca5_5 sSkip
@[simp] def ca5_6_ap := cond_rule (c := ca5_6) rfl
def ca5_7 : SC := sSeq (sAny oa5_8) ca5_6
@[simp] def ca5_7_ap := seq_rule (c := ca5_7) rfl
def ca5_8 : SC := sSeq (sReg (seqI oa5_7)) ca5_7
@[simp] def ca5_8_ap := seq_rule (c := ca5_8) rfl
def ca5_9 : SC := sCond (tg 44) ca5_8 sSkip
@[simp] def ca5_9_ap := cond_rule (c := ca5_9) rfl
def ca5_10 : SC := sSeq (sReg (seqI oa5_6)) ca5_9
@[simp] def ca5_10_ap := seq_rule (c := ca5_10) rfl
def oa5_11 : List IS := [ip 67 (pMov (tg 0)),
  ip 68 (pNilck (tg 67)),
  ip 69 (pFaddr 4 (tg 68)),
  ip 70 (pFaddr 4 (tg 69)),
  il 71 (tg 70) (mLoad1 (tg 70)),
  ip 72 (pMov (tg 71)),
  gd 72 true (some 73) (ip 73 (pMov (tg 0))),
  gd 72 true (some 74) (ip 74 (pNilck (tg 73))),
  gd 72 true (some 75) (ip 75 (pFaddr 12 (tg 74))),
  gd 72 true (some 76) (il 76 (tg 75) (mLoad1 (tg 75))),
  ip 77 (pPick (tg 72) (tg 76) (cv (.bool false))),
  ip 66 (pMov (tg 77))]
@[simp] def oa5_11_ap := ops_rule (c := oa5_11) rfl
def oa5_12 : List IS := [ip 78 (pMov (tg 0)),
  ip 79 (pMov (tg 0)),
  ip 80 (pNilck (tg 79)),
  ip 81 (pFaddr 11 (tg 80)),
  il 82 (tg 81) (mLoad1 (tg 81)),
  ip 1 (pMov (tg 82)),
  ip 83 (pNilck (tg 78)),
  ip 84 (pFaddr 12 (tg 83)),
  im0 3 (mStore 1 (tg 84) (cv (.bool false)))]
@[simp] def oa5_12_ap := ops_rule (c := oa5_12) rfl
def oa5_13 : List DA := [⟨CI.pure (pMov (tg 0)), (some 85), none, 0, []⟩,
  ⟨CI.pure (pNilck (tg 85)), (some 86), none, 1, []⟩,
  ⟨CI.pure (pFaddr 3 (tg 86)), (some 87), none, 2, []⟩,
  ⟨CI.load (tg 87) (mLoad1 (tg 87)), (some 88), none, 3, []⟩,
  ⟨CI.pure (pFaddr 1 (tg 5)), (some 89), none, 4, []⟩,
  ⟨CI.load (tg 89) (mLoad1 (tg 89)), (some 90), none, 5, []⟩,
  ⟨CI.pure (pMov (tg 1)), (some 91), none, 6, []⟩,
  ⟨CI.pure (pIaddrS 1 (tg 88) (tg 90)), (some 92), none, 7, []⟩,
  ⟨CI.mem 3 (mStore 1 (tg 92) (tg 91)), none, none, 8, []⟩]
@[simp] def oa5_13_ap := das_rule (c := oa5_13) rfl
def ca5_11 : SC := sSeq (sReg (seqI oa5_12)) (sAny oa5_13)
@[simp] def ca5_11_ap := seq_rule (c := ca5_11) rfl
def oa5_14 : List IS := [ip 94 (pMov (tg 0)),
  ip 95 (pNilck (tg 94)),
  ip 96 (pFaddr 4 (tg 95)),
  ip 97 (pFaddr 0 (tg 96)),
  il 98 (tg 97) (mLoad1 (tg 97)),
  ip 99 (pBin .eql (tg 98) (cv (.int .i64 1))),
  ip 93 (pMov (tg 99))]
@[simp] def oa5_14_ap := ops_rule (c := oa5_14) rfl
def oa5_15 : List DA := [⟨CI.pure (pMov (tg 0)), (some 100), none, 0, []⟩,
  ⟨CI.pure (pNilck (tg 100)), (some 101), none, 1, []⟩,
  ⟨CI.pure (pFaddr 3 (tg 101)), (some 102), none, 2, []⟩,
  ⟨CI.load (tg 102) (mLoad1 (tg 102)), (some 103), none, 3, []⟩,
  ⟨CI.pure (pFaddr 1 (tg 5)), (some 104), none, 4, []⟩,
  ⟨CI.load (tg 104) (mLoad1 (tg 104)), (some 105), none, 5, []⟩,
  ⟨CI.pure (pMov (tg 1)), (some 106), none, 6, []⟩,
  ⟨CI.pure (pIaddrS 1 (tg 103) (tg 105)), (some 107), none, 7, []⟩,
  ⟨CI.mem 3 (mStore 1 (tg 107) (tg 106)), none, none, 8, []⟩]
@[simp] def oa5_15_ap := das_rule (c := oa5_15) rfl
def ca5_12 : SC := sCond (tg 93) (sAny oa5_15) sSkip
@[simp] def ca5_12_ap := cond_rule (c := ca5_12) rfl
def ca5_13 : SC := sSeq (sReg (seqI oa5_14)) ca5_12
@[simp] def ca5_13_ap := seq_rule (c := ca5_13) rfl
def ca5_14 : SC := sCond (tg 66) ca5_11 ca5_13
@[simp] def ca5_14_ap := cond_rule (c := ca5_14) rfl
def ca5_15 : SC := sSeq (sReg (seqI oa5_11)) ca5_14
@[simp] def ca5_15_ap := seq_rule (c := ca5_15) rfl
def ca5_16 : SC := sBlock 0 ca5_15
@[simp] def ca5_16_ap := block_rule (c := ca5_16) rfl
def oa5_16 : List IS := [ip 108 (pMov (tg 0)),
  ip 109 (pNilck (tg 108)),
  ip 110 (pFaddr 2 (tg 109)),
  il 111 (tg 110) (mLoad1 (tg 110)),
  ip 112 (pBin .add (tg 111) (cv (.int .i64 1))),
  ip 113 (pNilck (tg 108)),
  ip 114 (pFaddr 2 (tg 113)),
  im0 3 (mStore 1 (tg 114) (tg 112))]
@[simp] def oa5_16_ap := ops_rule (c := oa5_16) rfl
def oa5_17 : List IS := [ip 4 (pMov (cv (.int .i64 0)))]
@[simp] def oa5_17_ap := ops_rule (c := oa5_17) rfl
def ca5_17 : SC := sSeq (sReg (seqI oa5_17)) sRet
@[simp] def ca5_17_ap := seq_rule (c := ca5_17) rfl
def ca5_18 : SC := sSeq (sReg (seqI oa5_16)) ca5_17
@[simp] def ca5_18_ap := seq_rule (c := ca5_18) rfl
def ca5_19 : SC := sSeq ca5_16 ca5_18
@[simp] def ca5_19_ap := seq_rule (c := ca5_19) rfl
def ca5_20 : SC := sSeq ca5_10 ca5_19
@[simp] def ca5_20_ap := seq_rule (c := ca5_20) rfl
def ca5_21 : SC := sSeq (sReg (seqI oa5_5)) ca5_20
@[simp] def ca5_21_ap := seq_rule (c := ca5_21) rfl
def ca5_22 : SC := sSeq (sReg (seqI oa5_4)) ca5_21
@[simp] def ca5_22_ap := seq_rule (c := ca5_22) rfl
def ca5_23 : SC := sSeq ca5_3 ca5_22
@[simp] def ca5_23_ap := seq_rule (c := ca5_23) rfl
def ca5_24 : SC := sSeq (sReg (seqI oa5_1)) ca5_23
@[simp] def ca5_24_ap := seq_rule (c := ca5_24) rfl
def da5 : DFn := ⟨ca5_24, 115, [.t 4]⟩
theorem da5_ok : fnOf Tryz.prog 14 = some da5 := by kernel_rfl
def oa9_1 : List IS := [im 1 2 (mAlloc [(.int .i64 0), (.int .i64 0), (.int .i64 0), (.int .u64 0), (.bool false), (.bool false)])]
@[simp] def oa9_1_ap := ops_rule (c := oa9_1) rfl
def oa9_2 : List IS := [ip 6 (pMov (tg 0)),
  ip 7 (pNilck (tg 6)),
  ip 8 (pFaddr 10 (tg 7)),
  il 9 (tg 8) (mLoad1 (tg 8)),
  ip 10 (pMov (tg 9)),
  gd 10 true (some 11) (ip 11 (pMov (tg 0))),
  gd 10 true (some 12) (ip 12 (pNilck (tg 11))),
  gd 10 true (some 13) (ip 13 (pFaddr 4 (tg 12))),
  gd 10 true (some 14) (ip 14 (pFaddr 0 (tg 13))),
  gd 10 true (some 15) (il 15 (tg 14) (mLoad1 (tg 14))),
  gd 10 true (some 16) (ip 16 (pBin .neq (tg 15) (cv (.int .i64 6)))),
  ip 17 (pPick (tg 10) (tg 16) (cv (.bool false)))]
@[simp] def oa9_2_ap := ops_rule (c := oa9_2) rfl
def oa9_3 : List IS := [ip 18 (pMov (tg 0)),
  ip 19 (pNilck (tg 18)),
  ip 20 (pFaddr 4 (tg 19)),
  il 21 (tg 20) (mLoadN 6 (tg 20)),
  im0 3 (mStore 6 (tg 2) (tg 21))]
@[simp] def oa9_3_ap := ops_rule (c := oa9_3) rfl
def ca9_1 : SC := sSeq (sReg (seqI oa9_3)) sRet
@[simp] def ca9_1_ap := seq_rule (c := ca9_1) rfl
def ca9_2 : SC := sCond (tg 17) ca9_1 sSkip
@[simp] def ca9_2_ap := cond_rule (c := ca9_2) rfl
def ca9_3 : SC := sSeq (sReg (seqI oa9_2)) ca9_2
@[simp] def ca9_3_ap := seq_rule (c := ca9_3) rfl
def oa9_4 : List IS := [ip 22 (pMov (tg 0)),
  ip 23 (pNilck (tg 22)),
  ip 24 (pFaddr 10 (tg 23)),
  im0 3 (mStore 1 (tg 24) (cv (.bool true)))]
@[simp] def oa9_4_ap := ops_rule (c := oa9_4) rfl
def oa9_5 : List IS := [ip 25 (pMov (cv (.int .i64 0)))]
@[simp] def oa9_5_ap := ops_rule (c := oa9_5) rfl
def oa9_6 : List IS := [ip 26 (pBin .lss (tg 25) (cv (.int .i64 100000)))]
@[simp] def oa9_6_ap := ops_rule (c := oa9_6) rfl
def ca9_4 : SC := sCond (tg 26) sSkip (sExit 0)
@[simp] def ca9_4_ap := cond_rule (c := ca9_4) rfl
def oa9_7 : List DA := [⟨CI.pure (pMov (tg 0)), (some 27), none, 0, []⟩,
  ⟨CI.pure (pNilck (tg 27)), (some 28), none, 1, []⟩,
  ⟨CI.pure (pFaddr 2 (tg 28)), (some 29), none, 2, []⟩,
  ⟨CI.load (tg 29) (mLoad1 (tg 29)), (some 30), none, 3, []⟩,
  ⟨CI.pure (pMov (tg 0)), (some 31), none, 4, []⟩,
  ⟨CI.pure (pNilck (tg 31)), (some 32), none, 5, []⟩,
  ⟨CI.pure (pFaddr 0 (tg 32)), (some 33), none, 6, []⟩,
  ⟨CI.pure (pFaddr 1 (tg 33)), (some 34), none, 7, []⟩,
  ⟨CI.load (tg 34) (mLoad1 (tg 34)), (some 35), none, 8, []⟩,
  ⟨CI.pure (pLen (tg 35)), (some 36), none, 9, []⟩,
  ⟨CI.pure (pBin .eql (tg 30) (tg 36)), (some 37), none, 10, []⟩]
@[simp] def oa9_7_ap := das_rule (c := oa9_7) rfl
def oa9_8 : List IS := [ip 38 (pMov (tg 0)),
  ip 39 (pBuild [(.int .i64 0), (.int .i64 0), (.int .i64 0), (.int .u64 0), (.bool false), (.bool false)] [(0, 1, (cv (.int .i64 5)))]),
  ip 40 (pNilck (tg 38)),
  ip 41 (pFaddr 4 (tg 40)),
  im0 3 (mStore 6 (tg 41) (tg 39))]
@[simp] def oa9_8_ap := ops_rule (c := oa9_8) rfl
def oa9_9 : List IS := [ip 42 (pMov (tg 0)),
  ip 43 (pNilck (tg 42)),
  ip 44 (pFaddr 4 (tg 43)),
  il 45 (tg 44) (mLoadN 6 (tg 44)),
  im0 3 (mStore 6 (tg 2) (tg 45))]
@[simp] def oa9_9_ap := ops_rule (c := oa9_9) rfl
def ca9_5 : SC := sSeq (sReg (seqI oa9_9)) sRet
@[simp] def ca9_5_ap := seq_rule (c := ca9_5) rfl
def ca9_6 : SC := sSeq (sReg (seqI oa9_8)) ca9_5
@[simp] def ca9_6_ap := seq_rule (c := ca9_6) rfl
def ca9_7 : SC := sCond (tg 37) ca9_6 sSkip
@[simp] def ca9_7_ap := cond_rule (c := ca9_7) rfl
def ca9_8 : SC := sSeq (sAny oa9_7) ca9_7
@[simp] def ca9_8_ap := seq_rule (c := ca9_8) rfl
def oa9_10 : List IS := [ip 46 (pMov (tg 0)),
  im 3 47 (mCall 26 [(tg 46)]),
  im 1 3 (mAlloc [(.int .i64 0), (.int .i64 0), (.int .i64 0), (.int .i64 0), (.slice none 0 0), (.slice none 0 0), (.slice none 0 0), (.int .i64 0), (.int .i64 0), (.int .i64 0), (.int .i64 0)]),
  im0 3 (mStore 11 (tg 3) (tg 47))]
@[simp] def oa9_10_ap := ops_rule (c := oa9_10) rfl
def oa9_11 : List DA := [⟨CI.mem 3 (mCall 28 []), (some 48), none, 0, []⟩,
  ⟨CI.pure (pFaddr 0 (tg 3)), (some 49), none, 1, []⟩,
  ⟨CI.load (tg 49) (mLoad1 (tg 49)), (some 50), none, 2, [0]⟩,
  ⟨CI.pure (pIdx 11 false 1 (tg 48) (tg 50)), (some 51), none, 3, []⟩,
  ⟨CI.pure (pMov (tg 0)), (some 52), none, 4, []⟩,
  ⟨CI.load (tg 3) (mLoadN 11 (tg 3)), (some 53), none, 5, [0]⟩,
  ⟨CI.mem 3 (mCallv (tg 51) [(tg 52), (tg 53)]), (some 54), none, 6, []⟩,
  ⟨CI.mem 1 (mAlloc [(.int .i64 0), (.int .i64 0), (.int .i64 0), (.int .u64 0), (.bool false), (.bool false)]), (some 4), none, 7, []⟩,
  ⟨CI.mem 3 (mStore 6 (tg 4) (tg 54)), none, none, 8, []⟩]
@[simp] def oa9_11_ap := das_rule (c := oa9_11) rfl
def oa9_12 : List IS := [il 55 (tg 3) (mLoadN 11 (tg 3)),
  im 3 56 (mCall 27 [(tg 55)]),
  ip 57 (pUn .not (tg 56))]
@[simp] def oa9_12_ap := ops_rule (c := oa9_12) rfl
def oa9_13 : List IS := [ip 58 (pMov (tg 0)),
  il 59 (tg 4) (mLoadN 6 (tg 4)),
  ip 60 (pNilck (tg 58)),
  ip 61 (pFaddr 4 (tg 60)),
  im0 3 (mStore 6 (tg 61) (tg 59))]
@[simp] def oa9_13_ap := ops_rule (c := oa9_13) rfl
def oa9_14 : List IS := [il 62 (tg 4) (mLoadN 6 (tg 4)),
  im0 3 (mStore 6 (tg 2) (tg 62))]
@[simp] def oa9_14_ap := ops_rule (c := oa9_14) rfl
def ca9_9 : SC := sSeq (sReg (seqI oa9_14)) sRet
@[simp] def ca9_9_ap := seq_rule (c := ca9_9) rfl
def ca9_10 : SC := sSeq (sReg (seqI oa9_13)) ca9_9
@[simp] def ca9_10_ap := seq_rule (c := ca9_10) rfl
def ca9_11 : SC := sCond (tg 57) ca9_10 sSkip
@[simp] def ca9_11_ap := cond_rule (c := ca9_11) rfl
def ca9_12 : SC := sSeq (sReg (seqI oa9_12)) ca9_11
@[simp] def ca9_12_ap := seq_rule (c := ca9_12) rfl
def ca9_13 : SC := sSeq (sAny oa9_11) ca9_12
@[simp] def ca9_13_ap := seq_rule (c := ca9_13) rfl
def ca9_14 : SC := sSeq (sReg (seqI oa9_10)) ca9_13
@[simp] def ca9_14_ap := seq_rule (c := ca9_14) rfl
def ca9_15 : SC := sSeq ca9_8 ca9_14
@[simp] def ca9_15_ap := seq_rule (c := ca9_15) rfl
def ca9_16 : SC := sBlock 1 ca9_15
@[simp] def ca9_16_ap := block_rule (c := ca9_16) rfl
def oa9_15 : List IS := [ip 63 (pBin .add (tg 25) (cv (.int .i64 1))),
  ip 25 (pMov (tg 63))]
@[simp] def oa9_15_ap := ops_rule (c := oa9_15) rfl
def ca9_17 : SC := sSeq ca9_16 (sReg (seqI oa9_15))
@[simp] def ca9_17_ap := seq_rule (c := ca9_17) rfl
def ca9_18 : SC := sSeq ca9_4 ca9_17
@[simp] def ca9_18_ap := seq_rule (c := ca9_18) rfl
def ca9_19 : SC := sSeq (sReg (seqI oa9_6)) ca9_18
@[simp] def ca9_19_ap := seq_rule (c := ca9_19) rfl
def ca9_20 : SC := sLoop ca9_19
def ca9_21 : SC := sBlock 0 ca9_20
@[simp] def ca9_21_ap := block_rule (c := ca9_21) rfl
def ca9_22 : SC := sSeq (sReg (seqI oa9_5)) ca9_21
@[simp] def ca9_22_ap := seq_rule (c := ca9_22) rfl
def oa9_16 : List IS := [ip 64 (pMov (tg 0)),
  ip 65 (pBuild [(.int .i64 0), (.int .i64 0), (.int .i64 0), (.int .u64 0), (.bool false), (.bool false)] [(0, 1, (cv (.int .i64 6)))]),
  ip 66 (pNilck (tg 64)),
  ip 67 (pFaddr 4 (tg 66)),
  im0 3 (mStore 6 (tg 67) (tg 65))]
@[simp] def oa9_16_ap := ops_rule (c := oa9_16) rfl
def oa9_17 : List DA := [⟨CI.pure (pMov (tg 0)), (some 68), none, 0, []⟩,
  ⟨CI.pure (pNilck (tg 68)), (some 69), none, 1, []⟩,
  ⟨CI.pure (pFaddr 2 (tg 69)), (some 70), none, 2, []⟩,
  ⟨CI.load (tg 70) (mLoad1 (tg 70)), (some 71), none, 3, []⟩,
  ⟨CI.pure (pMov (tg 0)), (some 72), none, 4, []⟩,
  ⟨CI.pure (pNilck (tg 72)), (some 73), none, 5, []⟩,
  ⟨CI.pure (pFaddr 0 (tg 73)), (some 74), none, 6, []⟩,
  ⟨CI.pure (pFaddr 1 (tg 74)), (some 75), none, 7, []⟩,
  ⟨CI.load (tg 75) (mLoad1 (tg 75)), (some 76), none, 8, []⟩,
  ⟨CI.pure (pLen (tg 76)), (some 77), none, 9, []⟩,
  ⟨CI.pure (pBin .eql (tg 71) (tg 77)), (some 78), none, 10, []⟩]
@[simp] def oa9_17_ap := das_rule (c := oa9_17) rfl
def oa9_18 : List IS := [ip 79 (pMov (tg 0)),
  ip 80 (pNilck (tg 79)),
  ip 81 (pFaddr 4 (tg 80)),
  ip 82 (pFaddr 0 (tg 81)),
  im0 3 (mStore 1 (tg 82) (cv (.int .i64 5)))]
@[simp] def oa9_18_ap := ops_rule (c := oa9_18) rfl
def oa9_19 : List IS := [ip 83 (pMov (tg 0)),
  im 3 84 (mCall 26 [(tg 83)]),
  im 1 5 (mAlloc [(.int .i64 0), (.int .i64 0), (.int .i64 0), (.int .i64 0), (.slice none 0 0), (.slice none 0 0), (.slice none 0 0), (.int .i64 0), (.int .i64 0), (.int .i64 0), (.int .i64 0)]),
  im0 3 (mStore 11 (tg 5) (tg 84))]
@[simp] def oa9_19_ap := ops_rule (c := oa9_19) rfl
def oa9_20 : List IS := [il 85 (tg 5) (mLoadN 11 (tg 5)),
  im 3 86 (mCall 27 [(tg 85)]),
  ip 87 (pUn .not (tg 86))]
@[simp] def oa9_20_ap := ops_rule (c := oa9_20) rfl
def oa9_21 : List DA := [⟨CI.pure (pMov (tg 0)), (some 88), none, 0, []⟩,
  ⟨CI.mem 3 (mCall 28 []), (some 89), none, 1, []⟩,
  ⟨CI.pure (pFaddr 0 (tg 5)), (some 90), none, 2, []⟩,
  ⟨CI.load (tg 90) (mLoad1 (tg 90)), (some 91), none, 3, [1]⟩,
  ⟨CI.pure (pIdx 11 false 1 (tg 89) (tg 91)), (some 92), none, 4, []⟩,
  ⟨CI.pure (pMov (tg 0)), (some 93), none, 5, []⟩,
  ⟨CI.load (tg 5) (mLoadN 11 (tg 5)), (some 94), none, 6, [1]⟩,
  ⟨CI.mem 3 (mCallv (tg 92) [(tg 93), (tg 94)]), (some 95), none, 7, []⟩,
  ⟨CI.pure (pNilck (tg 88)), (some 96), none, 8, []⟩,
  ⟨CI.pure (pFaddr 4 (tg 96)), (some 97), none, 9, []⟩,
  ⟨CI.mem 3 (mStore 6 (tg 97) (tg 95)), none, none, 10, []⟩]
@[simp] def oa9_21_ap := das_rule (c := oa9_21) rfl
def ca9_23 : SC := sCond (tg 87) (sAny oa9_21) sSkip
@[simp] def ca9_23_ap := cond_rule (c := ca9_23) rfl
def ca9_24 : SC := sSeq (sReg (seqI oa9_20)) ca9_23
@[simp] def ca9_24_ap := seq_rule (c := ca9_24) rfl
def ca9_25 : SC := sSeq (sReg (seqI oa9_19)) ca9_24
@[simp] def ca9_25_ap := seq_rule (c := ca9_25) rfl
def ca9_26 : SC := sCond (tg 78) (sReg (seqI oa9_18)) ca9_25
@[simp] def ca9_26_ap := cond_rule (c := ca9_26) rfl
def ca9_27 : SC := sSeq (sAny oa9_17) ca9_26
@[simp] def ca9_27_ap := seq_rule (c := ca9_27) rfl
def oa9_22 : List IS := [ip 98 (pMov (tg 0)),
  ip 99 (pNilck (tg 98)),
  ip 100 (pFaddr 4 (tg 99)),
  il 101 (tg 100) (mLoadN 6 (tg 100)),
  im0 3 (mStore 6 (tg 2) (tg 101))]
@[simp] def oa9_22_ap := ops_rule (c := oa9_22) rfl
def ca9_28 : SC := sSeq (sReg (seqI oa9_22)) sRet
@[simp] def ca9_28_ap := seq_rule (c := ca9_28) rfl
def ca9_29 : SC := sSeq ca9_27 ca9_28
@[simp] def ca9_29_ap := seq_rule (c := ca9_29) rfl
def ca9_30 : SC := sSeq (sReg (seqI oa9_16)) ca9_29
@[simp] def ca9_30_ap := seq_rule (c := ca9_30) rfl
def ca9_31 : SC := sSeq ca9_22 ca9_30
@[simp] def ca9_31_ap := seq_rule (c := ca9_31) rfl
def ca9_32 : SC := sSeq (sReg (seqI oa9_4)) ca9_31
@[simp] def ca9_32_ap := seq_rule (c := ca9_32) rfl
def ca9_33 : SC := sSeq ca9_3 ca9_32
@[simp] def ca9_33_ap := seq_rule (c := ca9_33) rfl
def ca9_34 : SC := sSeq (sReg (seqI oa9_1)) ca9_33
@[simp] def ca9_34_ap := seq_rule (c := ca9_34) rfl
def da9 : DFn := ⟨ca9_34, 102, [.cell 2 6]⟩
theorem da9_ok : fnOf Tryz.prog 18 = some da9 := by kernel_rfl
def ob1_1 : List IS := [ip 2 (pMov (cv (.pointer none)))]
@[simp] def ob1_1_ap := ops_rule (c := ob1_1) rfl
def ob1_2 : List IS := [ip 4 (pMov (tg 0)),
  ip 5 (pNilck (tg 4)),
  il 6 (tg 5) (mLoadN 13 (tg 5)),
  im 1 3 (mAlloc [(.int .i64 0), (.slice none 0 0), (.int .i64 0), (.slice none 0 0), (.int .i64 0), (.int .i64 0), (.int .i64 0), (.int .u64 0), (.bool false), (.bool false), (.bool false), (.int .u64 0), (.bool false)]),
  im0 3 (mStore 13 (tg 3) (tg 6))]
@[simp] def ob1_2_ap := ops_rule (c := ob1_2) rfl
def ob1_3 : List IS := [ip 7 (pMov (tg 0)),
  ip 8 (pNilck (tg 7)),
  ip 9 (pFaddr 3 (tg 8)),
  il 10 (tg 9) (mLoad1 (tg 9)),
  im 3 11 (mCall 40 [(tg 10)]),
  ip 12 (pFaddr 3 (tg 3)),
  im0 3 (mStore 1 (tg 12) (tg 11))]
@[simp] def ob1_3_ap := ops_rule (c := ob1_3) rfl
def ob1_4 : List IS := [ip 13 (pFaddr 10 (tg 3)),
  im0 3 (mStore 1 (tg 13) (cv (.bool false)))]
@[simp] def ob1_4_ap := ops_rule (c := ob1_4) rfl
def ob1_5 : List IS := [ip 2 (pMov (tg 3))]
@[simp] def ob1_5_ap := ops_rule (c := ob1_5) rfl
def cb1_1 : SC := sSeq (sReg (seqI ob1_5)) sRet
@[simp] def cb1_1_ap := seq_rule (c := cb1_1) rfl
def cb1_2 : SC := sSeq (sReg (seqI ob1_4)) cb1_1
@[simp] def cb1_2_ap := seq_rule (c := cb1_2) rfl
def cb1_3 : SC := sSeq (sReg (seqI ob1_3)) cb1_2
@[simp] def cb1_3_ap := seq_rule (c := cb1_3) rfl
def cb1_4 : SC := sSeq (sReg (seqI ob1_2)) cb1_3
@[simp] def cb1_4_ap := seq_rule (c := cb1_4) rfl
def cb1_5 : SC := sSeq (sReg (seqI ob1_1)) cb1_4
@[simp] def cb1_5_ap := seq_rule (c := cb1_5) rfl
def db1 : DFn := ⟨cb1_5, 14, [.t 2]⟩
theorem db1_ok : fnOf Tryz.prog 20 = some db1 := by kernel_rfl
def ob7_1 : List IS := [im 1 2 (mAlloc [(.int .i64 0), (.int .i64 0), (.int .i64 0), (.int .i64 0), (.slice none 0 0), (.slice none 0 0), (.slice none 0 0), (.int .i64 0), (.int .i64 0), (.int .i64 0), (.int .i64 0)])]
@[simp] def ob7_1_ap := ops_rule (c := ob7_1) rfl
def ob7_2 : List DA := [⟨CI.pure (pMov (tg 0)), (some 3), none, 0, []⟩,
  ⟨CI.pure (pNilck (tg 3)), (some 4), none, 1, []⟩,
  ⟨CI.pure (pFaddr 0 (tg 4)), (some 5), none, 2, []⟩,
  ⟨CI.pure (pFaddr 1 (tg 5)), (some 6), none, 3, []⟩,
  ⟨CI.load (tg 6) (mLoad1 (tg 6)), (some 7), none, 4, []⟩,
  ⟨CI.pure (pMov (tg 0)), (some 8), none, 5, []⟩,
  ⟨CI.pure (pNilck (tg 8)), (some 9), none, 6, []⟩,
  ⟨CI.pure (pFaddr 2 (tg 9)), (some 10), none, 7, []⟩,
  ⟨CI.load (tg 10) (mLoad1 (tg 10)), (some 11), none, 8, []⟩,
  ⟨CI.pure (pIaddrS 11 (tg 7) (tg 11)), (some 12), none, 9, []⟩,
  ⟨CI.load (tg 12) (mLoadN 11 (tg 12)), (some 13), none, 10, []⟩,
  ⟨CI.mem 3 (mStore 11 (tg 2) (tg 13)), none, none, 11, []⟩]
@[simp] def ob7_2_ap := das_rule (c := ob7_2) rfl
def cb7_1 : SC := sSeq (sAny ob7_2) sRet
@[simp] def cb7_1_ap := seq_rule (c := cb7_1) rfl
def cb7_2 : SC := sSeq (sReg (seqI ob7_1)) cb7_1
@[simp] def cb7_2_ap := seq_rule (c := cb7_2) rfl
def db7 : DFn := ⟨cb7_2, 14, [.cell 2 11]⟩
theorem db7_ok : fnOf Tryz.prog 26 = some db7 := by kernel_rfl
def ob8_1 : List IS := [im 1 1 (mBox (tg 0)),
  ip 2 (pMov (cv (.bool false)))]
@[simp] def ob8_1_ap := ops_rule (c := ob8_1) rfl
def ob8_2 : List IS := [ip 3 (pFaddr 0 (tg 1)),
  il 4 (tg 3) (mLoad1 (tg 3)),
  ip 5 (pBin .eql (tg 4) (cv (.int .i64 1))),
  ip 6 (pMov (tg 5)),
  gd 6 false (some 7) (ip 7 (pFaddr 0 (tg 1))),
  gd 6 false (some 8) (il 8 (tg 7) (mLoad1 (tg 7))),
  gd 6 false (some 9) (ip 9 (pBin .eql (tg 8) (cv (.int .i64 9)))),
  ip 10 (pPick (tg 6) (cv (.bool true)) (tg 9)),
  ip 11 (pMov (tg 10)),
  gd 11 false (some 12) (ip 12 (pFaddr 0 (tg 1))),
  gd 11 false (some 13) (il 13 (tg 12) (mLoad1 (tg 12))),
  gd 11 false (some 14) (ip 14 (pBin .eql (tg 13) (cv (.int .i64 10)))),
  ip 15 (pPick (tg 11) (cv (.bool true)) (tg 14)),
  ip 2 (pMov (tg 15))]
@[simp] def ob8_2_ap := ops_rule (c := ob8_2) rfl
def cb8_1 : SC := sSeq (sReg (seqI ob8_2)) sRet
@[simp] def cb8_1_ap := seq_rule (c := cb8_1) rfl
def cb8_2 : SC := sSeq (sReg (seqI ob8_1)) cb8_1
@[simp] def cb8_2_ap := seq_rule (c := cb8_2) rfl
def db8 : DFn := ⟨cb8_2, 16, [.t 2]⟩
theorem db8_ok : fnOf Tryz.prog 27 = some db8 := by kernel_rfl
def ob9_1 : List IS := [im 1 0 (mAlloc [.nilFunc, .nilFunc, .nilFunc, .nilFunc, .nilFunc, .nilFunc, .nilFunc, .nilFunc, .nilFunc, .nilFunc, .nilFunc])]
@[simp] def ob9_1_ap := ops_rule (c := ob9_1) rfl
def ob9_2 : List IS := [ip 1 (pBuild [.nilFunc, .nilFunc, .nilFunc, .nilFunc, .nilFunc, .nilFunc, .nilFunc, .nilFunc, .nilFunc, .nilFunc, .nilFunc] [(1, 1, (cv (.func (.func 45) #[] #[]))), (2, 1, (cv (.func (.func 46) #[] #[]))), (3, 1, (cv (.func (.func 47) #[] #[]))), (4, 1, (cv (.func (.func 48) #[] #[]))), (5, 1, (cv (.func (.func 48) #[] #[]))), (6, 1, (cv (.func (.func 48) #[] #[]))), (7, 1, (cv (.func (.func 49) #[] #[]))), (8, 1, (cv (.func (.func 50) #[] #[]))), (9, 1, (cv (.func (.func 51) #[] #[]))), (10, 1, (cv (.func (.func 52) #[] #[])))]),
  im0 3 (mStore 11 (tg 0) (tg 1))]
@[simp] def ob9_2_ap := ops_rule (c := ob9_2) rfl
def cb9_1 : SC := sSeq (sReg (seqI ob9_2)) sRet
@[simp] def cb9_1_ap := seq_rule (c := cb9_1) rfl
def cb9_2 : SC := sSeq (sReg (seqI ob9_1)) cb9_1
@[simp] def cb9_2_ap := seq_rule (c := cb9_2) rfl
def db9 : DFn := ⟨cb9_2, 2, [.cell 0 11]⟩
theorem db9_ok : fnOf Tryz.prog 28 = some db9 := by kernel_rfl
def oc0_1 : List IS := [im 1 1 (mBox (tg 0)),
  ip 2 (pMov (cv (.bool false)))]
@[simp] def oc0_1_ap := ops_rule (c := oc0_1) rfl
def oc0_2 : List IS := [ip 7 (pFaddr 0 (tg 1)),
  il 8 (tg 7) (mLoad1 (tg 7)),
  ip 9 (pBin .lss (tg 8) (cv (.int .i64 0))),
  ip 10 (pMov (tg 9)),
  gd 10 false (some 11) (ip 11 (pFaddr 0 (tg 1))),
  gd 10 false (some 12) (il 12 (tg 11) (mLoad1 (tg 11))),
  gd 10 false (some 13) (ip 13 (pBin .gtr (tg 12) (cv (.int .i64 4096)))),
  ip 14 (pPick (tg 10) (cv (.bool true)) (tg 13)),
  ip 15 (pMov (tg 14)),
  gd 15 false (some 16) (ip 16 (pFaddr 1 (tg 1))),
  gd 15 false (some 17) (il 17 (tg 16) (mLoad1 (tg 16))),
  gd 15 false (some 18) (ip 18 (pLen (tg 17))),
  gd 15 false (some 19) (ip 19 (pBin .gtr (tg 18) (cv (.int .i64 64)))),
  ip 20 (pPick (tg 15) (cv (.bool true)) (tg 19))]
@[simp] def oc0_2_ap := ops_rule (c := oc0_2) rfl
def oc0_3 : List IS := [ip 2 (pMov (cv (.bool false)))]
@[simp] def oc0_3_ap := ops_rule (c := oc0_3) rfl
def cc0_1 : SC := sSeq (sReg (seqI oc0_3)) sRet
@[simp] def cc0_1_ap := seq_rule (c := cc0_1) rfl
def cc0_2 : SC := sCond (tg 20) cc0_1 sSkip
@[simp] def cc0_2_ap := cond_rule (c := cc0_2) rfl
def cc0_3 : SC := sSeq (sReg (seqI oc0_2)) cc0_2
@[simp] def cc0_3_ap := seq_rule (c := cc0_3) rfl
def oc0_4 : List IS := [ip 21 (pFaddr 1 (tg 1)),
  il 22 (tg 21) (mLoad1 (tg 21)),
  ip 23 (pLen (tg 22)),
  ip 24 (pMov (cv (.int .i64 0)))]
@[simp] def oc0_4_ap := ops_rule (c := oc0_4) rfl
def oc0_5 : List IS := [ip 25 (pBin .lss (tg 24) (tg 23))]
@[simp] def oc0_5_ap := ops_rule (c := oc0_5) rfl
def cc0_4 : SC := sCond (tg 25) sSkip (sExit 0)
@[simp] def cc0_4_ap := cond_rule (c := cc0_4) rfl
def oc0_6 : List IS := [ip 26 (pIaddrS 2 (tg 22) (tg 24)),
  il 27 (tg 26) (mLoadN 2 (tg 26)),
  im 1 4 (mAlloc [(.int .i64 0), (.slice none 0 0)]),
  im0 3 (mStore 2 (tg 4) (tg 27))]
@[simp] def oc0_6_ap := ops_rule (c := oc0_6) rfl
def oc0_7 : List IS := [ip 28 (pFaddr 0 (tg 4)),
  il 29 (tg 28) (mLoad1 (tg 28)),
  ip 30 (pBin .lss (tg 29) (cv (.int .i64 0))),
  ip 31 (pMov (tg 30)),
  gd 31 false (some 32) (ip 32 (pFaddr 0 (tg 4))),
  gd 31 false (some 33) (il 33 (tg 32) (mLoad1 (tg 32))),
  gd 31 false (some 34) (ip 34 (pBin .gtr (tg 33) (cv (.int .i64 24)))),
  ip 35 (pPick (tg 31) (cv (.bool true)) (tg 34)),
  ip 36 (pMov (tg 35)),
  gd 36 false (some 37) (ip 37 (pFaddr 1 (tg 4))),
  gd 36 false (some 38) (il 38 (tg 37) (mLoad1 (tg 37))),
  gd 36 false (some 39) (ip 39 (pLen (tg 38))),
  gd 36 false (some 40) (ip 40 (pBin .gtr (tg 39) (cv (.int .i64 65536)))),
  ip 41 (pPick (tg 36) (cv (.bool true)) (tg 40))]
@[simp] def oc0_7_ap := ops_rule (c := oc0_7) rfl
def oc0_8 : List IS := [ip 2 (pMov (cv (.bool false)))]
@[simp] def oc0_8_ap := ops_rule (c := oc0_8) rfl
def cc0_5 : SC := sSeq (sReg (seqI oc0_8)) sRet
@[simp] def cc0_5_ap := seq_rule (c := cc0_5) rfl
def cc0_6 : SC := sCond (tg 41) cc0_5 sSkip
@[simp] def cc0_6_ap := cond_rule (c := cc0_6) rfl
def cc0_7 : SC := sSeq (sReg (seqI oc0_7)) cc0_6
@[simp] def cc0_7_ap := seq_rule (c := cc0_7) rfl
def oc0_9 : List IS := [ip 42 (pFaddr 1 (tg 4)),
  il 43 (tg 42) (mLoad1 (tg 42)),
  ip 44 (pLen (tg 43)),
  ip 45 (pMov (cv (.int .i64 0)))]
@[simp] def oc0_9_ap := ops_rule (c := oc0_9) rfl
def oc0_10 : List IS := [ip 46 (pBin .lss (tg 45) (tg 44))]
@[simp] def oc0_10_ap := ops_rule (c := oc0_10) rfl
def cc0_8 : SC := sCond (tg 46) sSkip (sExit 2)
@[simp] def cc0_8_ap := cond_rule (c := cc0_8) rfl
def oc0_11 : List IS := [ip 47 (pIaddrS 11 (tg 43) (tg 45)),
  il 48 (tg 47) (mLoadN 11 (tg 47)),
  im 1 6 (mAlloc [(.int .i64 0), (.int .i64 0), (.int .i64 0), (.int .i64 0), (.slice none 0 0), (.slice none 0 0), (.slice none 0 0), (.int .i64 0), (.int .i64 0), (.int .i64 0), (.int .i64 0)]),
  im0 3 (mStore 11 (tg 6) (tg 48))]
@[simp] def oc0_11_ap := ops_rule (c := oc0_11) rfl
def oc0_12 : List IS := [il 49 (tg 6) (mLoadN 11 (tg 6)),
  il 50 (tg 1) (mLoadN 2 (tg 1)),
  il 51 (tg 4) (mLoadN 2 (tg 4)),
  im 3 52 (mCall 54 [(tg 49), (tg 50), (tg 51)]),
  ip 53 (pUn .not (tg 52))]
@[simp] def oc0_12_ap := ops_rule (c := oc0_12) rfl
def oc0_13 : List IS := [ip 2 (pMov (cv (.bool false)))]
@[simp] def oc0_13_ap := ops_rule (c := oc0_13) rfl
def cc0_9 : SC := sSeq (sReg (seqI oc0_13)) sRet
@[simp] def cc0_9_ap := seq_rule (c := cc0_9) rfl
def cc0_10 : SC := sCond (tg 53) cc0_9 sSkip
@[simp] def cc0_10_ap := cond_rule (c := cc0_10) rfl
def cc0_11 : SC := sSeq (sReg (seqI oc0_12)) cc0_10
@[simp] def cc0_11_ap := seq_rule (c := cc0_11) rfl
def cc0_12 : SC := sSeq (sReg (seqI oc0_11)) cc0_11
@[simp] def cc0_12_ap := seq_rule (c := cc0_12) rfl
def cc0_13 : SC := sBlock 3 cc0_12
@[simp] def cc0_13_ap := block_rule (c := cc0_13) rfl
def oc0_14 : List IS := [ip 54 (pBin .add (tg 45) (cv (.int .i64 1))),
  ip 45 (pMov (tg 54))]
@[simp] def oc0_14_ap := ops_rule (c := oc0_14) rfl
def cc0_14 : SC := sSeq cc0_13 (sReg (seqI oc0_14))
@[simp] def cc0_14_ap := seq_rule (c := cc0_14) rfl
def cc0_15 : SC := sSeq cc0_8 cc0_14
@[simp] def cc0_15_ap := seq_rule (c := cc0_15) rfl
def cc0_16 : SC := sSeq (sReg (seqI oc0_10)) cc0_15
@[simp] def cc0_16_ap := seq_rule (c := cc0_16) rfl
def cc0_17 : SC := sLoop cc0_16
def cc0_18 : SC := sBlock 2 cc0_17
@[simp] def cc0_18_ap := block_rule (c := cc0_18) rfl
def cc0_19 : SC := sSeq (sReg (seqI oc0_9)) cc0_18
@[simp] def cc0_19_ap := seq_rule (c := cc0_19) rfl
def cc0_20 : SC := sSeq cc0_7 cc0_19
@[simp] def cc0_20_ap := seq_rule (c := cc0_20) rfl
def cc0_21 : SC := sSeq (sReg (seqI oc0_6)) cc0_20
@[simp] def cc0_21_ap := seq_rule (c := cc0_21) rfl
def cc0_22 : SC := sBlock 1 cc0_21
@[simp] def cc0_22_ap := block_rule (c := cc0_22) rfl
def oc0_15 : List IS := [ip 55 (pBin .add (tg 24) (cv (.int .i64 1))),
  ip 24 (pMov (tg 55))]
@[simp] def oc0_15_ap := ops_rule (c := oc0_15) rfl
def cc0_23 : SC := sSeq cc0_22 (sReg (seqI oc0_15))
@[simp] def cc0_23_ap := seq_rule (c := cc0_23) rfl
def cc0_24 : SC := sSeq cc0_4 cc0_23
@[simp] def cc0_24_ap := seq_rule (c := cc0_24) rfl
def cc0_25 : SC := sSeq (sReg (seqI oc0_5)) cc0_24
@[simp] def cc0_25_ap := seq_rule (c := cc0_25) rfl
def cc0_26 : SC := sLoop cc0_25
def cc0_27 : SC := sBlock 0 cc0_26
@[simp] def cc0_27_ap := block_rule (c := cc0_27) rfl
def cc0_28 : SC := sSeq (sReg (seqI oc0_4)) cc0_27
@[simp] def cc0_28_ap := seq_rule (c := cc0_28) rfl
def oc0_16 : List IS := [ip 2 (pMov (cv (.bool true)))]
@[simp] def oc0_16_ap := ops_rule (c := oc0_16) rfl
def cc0_29 : SC := sSeq (sReg (seqI oc0_16)) sRet
@[simp] def cc0_29_ap := seq_rule (c := cc0_29) rfl
def cc0_30 : SC := sSeq cc0_28 cc0_29
@[simp] def cc0_30_ap := seq_rule (c := cc0_30) rfl
def cc0_31 : SC := sSeq cc0_3 cc0_30
@[simp] def cc0_31_ap := seq_rule (c := cc0_31) rfl
def cc0_32 : SC := sSeq (sReg (seqI oc0_1)) cc0_31
@[simp] def cc0_32_ap := seq_rule (c := cc0_32) rfl
def dc0 : DFn := ⟨cc0_32, 56, [.t 2]⟩
theorem dc0_ok : fnOf Tryz.prog 34 = some dc0 := by kernel_rfl
def oc1_1 : List IS := [ip 2 (pMov (cv (.slice none 0 0)))]
@[simp] def oc1_1_ap := ops_rule (c := oc1_1) rfl
def oc1_2 : List IS := [ip 3 (pMov (tg 0)),
  ip 4 (pEqN false nilS true (tg 3) (cv (.slice none 0 0)))]
@[simp] def oc1_2_ap := ops_rule (c := oc1_2) rfl
def oc1_3 : List IS := [ip 2 (pMov (cv (.slice none 0 0)))]
@[simp] def oc1_3_ap := ops_rule (c := oc1_3) rfl
def cc1_1 : SC := sSeq (sReg (seqI oc1_3)) sRet
@[simp] def cc1_1_ap := seq_rule (c := cc1_1) rfl
def cc1_2 : SC := sCond (tg 4) cc1_1 sSkip
@[simp] def cc1_2_ap := cond_rule (c := cc1_2) rfl
def cc1_3 : SC := sSeq (sReg (seqI oc1_2)) cc1_2
@[simp] def cc1_3_ap := seq_rule (c := cc1_3) rfl
def oc1_4 : List IS := [im 1 5 (mBslice 11 0 (rep 0 [(.int .i64 0), (.int .i64 0), (.int .i64 0), (.int .i64 0), (.slice none 0 0), (.slice none 0 0), (.slice none 0 0), (.int .i64 0), (.int .i64 0), (.int .i64 0), (.int .i64 0)]) []),
  ip 6 (pMov (tg 0)),
  im 3 7 (mAppend 11 136 (tg 5) (tg 6)),
  ip 2 (pMov (tg 7))]
@[simp] def oc1_4_ap := ops_rule (c := oc1_4) rfl
def cc1_4 : SC := sSeq (sReg (seqI oc1_4)) sRet
@[simp] def cc1_4_ap := seq_rule (c := cc1_4) rfl
def cc1_5 : SC := sSeq cc1_3 cc1_4
@[simp] def cc1_5_ap := seq_rule (c := cc1_5) rfl
def cc1_6 : SC := sSeq (sReg (seqI oc1_1)) cc1_5
@[simp] def cc1_6_ap := seq_rule (c := cc1_6) rfl
def dc1 : DFn := ⟨cc1_6, 8, [.t 2]⟩
theorem dc1_ok : fnOf Tryz.prog 35 = some dc1 := by kernel_rfl
def oc2_1 : List IS := [ip 2 (pMov (cv (.slice none 0 0)))]
@[simp] def oc2_1_ap := ops_rule (c := oc2_1) rfl
def oc2_2 : List IS := [ip 3 (pMov (tg 0)),
  ip 4 (pEqN false nilS true (tg 3) (cv (.slice none 0 0)))]
@[simp] def oc2_2_ap := ops_rule (c := oc2_2) rfl
def oc2_3 : List IS := [ip 2 (pMov (cv (.slice none 0 0)))]
@[simp] def oc2_3_ap := ops_rule (c := oc2_3) rfl
def cc2_1 : SC := sSeq (sReg (seqI oc2_3)) sRet
@[simp] def cc2_1_ap := seq_rule (c := cc2_1) rfl
def cc2_2 : SC := sCond (tg 4) cc2_1 sSkip
@[simp] def cc2_2_ap := cond_rule (c := cc2_2) rfl
def cc2_3 : SC := sSeq (sReg (seqI oc2_2)) cc2_2
@[simp] def cc2_3_ap := seq_rule (c := cc2_3) rfl
def oc2_4 : List IS := [im 1 5 (mBslice 4 0 (rep 0 [(.int .i64 0), (.int .u64 0), (.int .i64 0), (.int .i64 0)]) []),
  ip 6 (pMov (tg 0)),
  im 3 7 (mAppend 4 32 (tg 5) (tg 6)),
  ip 2 (pMov (tg 7))]
@[simp] def oc2_4_ap := ops_rule (c := oc2_4) rfl
def cc2_4 : SC := sSeq (sReg (seqI oc2_4)) sRet
@[simp] def cc2_4_ap := seq_rule (c := cc2_4) rfl
def cc2_5 : SC := sSeq cc2_3 cc2_4
@[simp] def cc2_5_ap := seq_rule (c := cc2_5) rfl
def cc2_6 : SC := sSeq (sReg (seqI oc2_1)) cc2_5
@[simp] def cc2_6_ap := seq_rule (c := cc2_6) rfl
def dc2 : DFn := ⟨cc2_6, 8, [.t 2]⟩
theorem dc2_ok : fnOf Tryz.prog 36 = some dc2 := by kernel_rfl
def oc4_1 : List IS := [ip 4 (pMov (cv (.int .u64 0)))]
@[simp] def oc4_1_ap := ops_rule (c := oc4_1) rfl
def oc4_2 : List IS := [ip 8 (pMov (tg 0)),
  ip 9 (pLen (tg 8)),
  im 1 10 (mMkslice 1 8 [(.int .u64 0)] (tg 9) (tg 9)),
  ip 5 (pMov (tg 10))]
@[simp] def oc4_2_ap := ops_rule (c := oc4_2) rfl
def oc4_3 : List IS := [ip 11 (pMov (tg 0)),
  ip 12 (pLen (tg 11)),
  ip 13 (pMov (cv (.int .i64 0)))]
@[simp] def oc4_3_ap := ops_rule (c := oc4_3) rfl
def oc4_4 : List IS := [ip 14 (pBin .lss (tg 13) (tg 12))]
@[simp] def oc4_4_ap := ops_rule (c := oc4_4) rfl
def cc4_1 : SC := sCond (tg 14) sSkip (sExit 0)
@[simp] def cc4_1_ap := cond_rule (c := cc4_1) rfl
def oc4_5 : List IS := [ip 15 (pMov (tg 13)),
  ip 16 (pIaddrS 4 (tg 11) (tg 13)),
  il 17 (tg 16) (mLoadN 4 (tg 16)),
  im 1 7 (mAlloc [(.int .i64 0), (.int .u64 0), (.int .i64 0), (.int .i64 0)]),
  ip 6 (pMov (tg 15)),
  im0 3 (mStore 4 (tg 7) (tg 17))]
@[simp] def oc4_5_ap := ops_rule (c := oc4_5) rfl
def oc4_6 : List IS := [ip 35 (pFaddr 0 (tg 7)),
  il 36 (tg 35) (mLoad1 (tg 35)),
  ip 37 (pBin .eql (tg 36) (cv (.int .i64 1))),
  ip 34 (pMov (tg 37))]
@[simp] def oc4_6_ap := ops_rule (c := oc4_6) rfl
def oc4_7 : List IS := [ip 38 (pMov (tg 5)),
  ip 39 (pMov (tg 6)),
  ip 40 (pFaddr 1 (tg 7)),
  il 41 (tg 40) (mLoad1 (tg 40)),
  ip 42 (pIaddrS 1 (tg 38) (tg 39)),
  im0 3 (mStore 1 (tg 42) (tg 41))]
@[simp] def oc4_7_ap := ops_rule (c := oc4_7) rfl
def oc4_8 : List IS := [ip 44 (pFaddr 0 (tg 7)),
  il 45 (tg 44) (mLoad1 (tg 44)),
  ip 46 (pBin .eql (tg 45) (cv (.int .i64 2))),
  ip 43 (pMov (tg 46))]
@[simp] def oc4_8_ap := ops_rule (c := oc4_8) rfl
def oc4_9 : List IS := [ip 47 (pMov (tg 5)),
  ip 48 (pMov (tg 6)),
  ip 49 (pMov (tg 1)),
  ip 50 (pFaddr 1 (tg 7)),
  il 51 (tg 50) (mLoad1 (tg 50)),
  ip 52 (pIaddrS 1 (tg 49) (tg 51)),
  il 53 (tg 52) (mLoad1 (tg 52)),
  ip 54 (pIaddrS 1 (tg 47) (tg 48)),
  im0 3 (mStore 1 (tg 54) (tg 53))]
@[simp] def oc4_9_ap := ops_rule (c := oc4_9) rfl
def oc4_10 : List IS := [ip 56 (pFaddr 0 (tg 7)),
  il 57 (tg 56) (mLoad1 (tg 56)),
  ip 58 (pBin .leq (tg 57) (cv (.int .i64 5))),
  ip 55 (pMov (tg 58))]
@[simp] def oc4_10_ap := ops_rule (c := oc4_10) rfl
def oc4_11 : List DA := [⟨CI.pure (pMov (tg 5)), (some 59), none, 0, []⟩,
  ⟨CI.pure (pMov (tg 6)), (some 60), none, 1, []⟩,
  ⟨CI.pure (pFaddr 0 (tg 7)), (some 61), none, 2, []⟩,
  ⟨CI.load (tg 61) (mLoad1 (tg 61)), (some 62), none, 3, []⟩,
  ⟨CI.pure (pMov (tg 5)), (some 63), none, 4, []⟩,
  ⟨CI.pure (pFaddr 2 (tg 7)), (some 64), none, 5, []⟩,
  ⟨CI.load (tg 64) (mLoad1 (tg 64)), (some 65), none, 6, []⟩,
  ⟨CI.pure (pIaddrS 1 (tg 63) (tg 65)), (some 66), none, 7, []⟩,
  ⟨CI.load (tg 66) (mLoad1 (tg 66)), (some 67), none, 8, []⟩,
  ⟨CI.mem 3 (mCall 60 [(tg 62), (tg 67)]), (some 68), none, 9, []⟩,
  ⟨CI.pure (pIaddrS 1 (tg 59) (tg 60)), (some 69), none, 10, []⟩,
  ⟨CI.mem 3 (mStore 1 (tg 69) (tg 68)), none, none, 11, []⟩]
@[simp] def oc4_11_ap := das_rule (c := oc4_11) rfl
def oc4_12 : List DA := [⟨CI.pure (pMov (tg 5)), (some 18), none, 0, []⟩,
  ⟨CI.pure (pMov (tg 6)), (some 19), none, 1, []⟩,
  ⟨CI.pure (pFaddr 0 (tg 7)), (some 20), none, 2, []⟩,
  ⟨CI.load (tg 20) (mLoad1 (tg 20)), (some 21), none, 3, []⟩,
  ⟨CI.pure (pMov (tg 5)), (some 22), none, 4, []⟩,
  ⟨CI.pure (pFaddr 2 (tg 7)), (some 23), none, 5, []⟩,
  ⟨CI.load (tg 23) (mLoad1 (tg 23)), (some 24), none, 6, []⟩,
  ⟨CI.pure (pIaddrS 1 (tg 22) (tg 24)), (some 25), none, 7, []⟩,
  ⟨CI.load (tg 25) (mLoad1 (tg 25)), (some 26), none, 8, []⟩,
  ⟨CI.pure (pMov (tg 5)), (some 27), none, 9, []⟩,
  ⟨CI.pure (pFaddr 3 (tg 7)), (some 28), none, 10, []⟩,
  ⟨CI.load (tg 28) (mLoad1 (tg 28)), (some 29), none, 11, []⟩,
  ⟨CI.pure (pIaddrS 1 (tg 27) (tg 29)), (some 30), none, 12, []⟩,
  ⟨CI.load (tg 30) (mLoad1 (tg 30)), (some 31), none, 13, []⟩,
  ⟨CI.mem 3 (mCall 61 [(tg 21), (tg 26), (tg 31)]), (some 32), none, 14, []⟩,
  ⟨CI.pure (pIaddrS 1 (tg 18) (tg 19)), (some 33), none, 15, []⟩,
  ⟨CI.mem 3 (mStore 1 (tg 33) (tg 32)), none, none, 16, []⟩]
@[simp] def oc4_12_ap := das_rule (c := oc4_12) rfl
def cc4_2 : SC := sCond (tg 55) (sAny oc4_11) (sAny oc4_12)
@[simp] def cc4_2_ap := cond_rule (c := cc4_2) rfl
def cc4_3 : SC := sSeq (sReg (seqI oc4_10)) cc4_2
@[simp] def cc4_3_ap := seq_rule (c := cc4_3) rfl
def cc4_4 : SC := sCond (tg 43) (sReg (seqI oc4_9)) cc4_3
@[simp] def cc4_4_ap := cond_rule (c := cc4_4) rfl
def cc4_5 : SC := sSeq (sReg (seqI oc4_8)) cc4_4
@[simp] def cc4_5_ap := seq_rule (c := cc4_5) rfl
def cc4_6 : SC := sCond (tg 34) (sReg (seqI oc4_7)) cc4_5
@[simp] def cc4_6_ap := cond_rule (c := cc4_6) rfl
def cc4_7 : SC := sSeq (sReg (seqI oc4_6)) cc4_6
@[simp] def cc4_7_ap := seq_rule (c := cc4_7) rfl
def cc4_8 : SC := sBlock 2 cc4_7
@[simp] def cc4_8_ap := block_rule (c := cc4_8) rfl
def cc4_9 : SC := sSeq (sReg (seqI oc4_5)) cc4_8
@[simp] def cc4_9_ap := seq_rule (c := cc4_9) rfl
def cc4_10 : SC := sBlock 1 cc4_9
@[simp] def cc4_10_ap := block_rule (c := cc4_10) rfl
def oc4_13 : List IS := [ip 70 (pBin .add (tg 13) (cv (.int .i64 1))),
  ip 13 (pMov (tg 70))]
@[simp] def oc4_13_ap := ops_rule (c := oc4_13) rfl
def cc4_11 : SC := sSeq cc4_10 (sReg (seqI oc4_13))
@[simp] def cc4_11_ap := seq_rule (c := cc4_11) rfl
def cc4_12 : SC := sSeq cc4_1 cc4_11
@[simp] def cc4_12_ap := seq_rule (c := cc4_12) rfl
def cc4_13 : SC := sSeq (sReg (seqI oc4_4)) cc4_12
@[simp] def cc4_13_ap := seq_rule (c := cc4_13) rfl
def cc4_14 : SC := sLoop cc4_13
def cc4_15 : SC := sBlock 0 cc4_14
@[simp] def cc4_15_ap := block_rule (c := cc4_15) rfl
def cc4_16 : SC := sSeq (sReg (seqI oc4_3)) cc4_15
@[simp] def cc4_16_ap := seq_rule (c := cc4_16) rfl
def oc4_14 : List IS := [ip 71 (pMov (tg 5)),
  ip 72 (pMov (tg 5)),
  ip 73 (pLen (tg 72)),
  ip 74 (pBin .sub (tg 73) (cv (.int .i64 1))),
  ip 75 (pIaddrS 1 (tg 71) (tg 74)),
  il 76 (tg 75) (mLoad1 (tg 75)),
  ip 4 (pMov (tg 76))]
@[simp] def oc4_14_ap := ops_rule (c := oc4_14) rfl
def cc4_17 : SC := sSeq (sReg (seqI oc4_14)) sRet
@[simp] def cc4_17_ap := seq_rule (c := cc4_17) rfl
def cc4_18 : SC := sSeq cc4_16 cc4_17
@[simp] def cc4_18_ap := seq_rule (c := cc4_18) rfl
def cc4_19 : SC := sSeq (sReg (seqI oc4_2)) cc4_18
@[simp] def cc4_19_ap := seq_rule (c := cc4_19) rfl
def cc4_20 : SC := sSeq (sReg (seqI oc4_1)) cc4_19
@[simp] def cc4_20_ap := seq_rule (c := cc4_20) rfl
def dc4 : DFn := ⟨cc4_20, 77, [.t 4]⟩
theorem dc4_ok : fnOf Tryz.prog 38 = some dc4 := by kernel_rfl
def oc5_1 : List IS := [ip 2 (pMov (cv (.slice none 0 0)))]
@[simp] def oc5_1_ap := ops_rule (c := oc5_1) rfl
def oc5_2 : List IS := [ip 3 (pMov (tg 0)),
  ip 4 (pNilck (tg 3)),
  ip 5 (pFaddr 3 (tg 4)),
  il 6 (tg 5) (mLoad1 (tg 5)),
  im 3 7 (mCall 40 [(tg 6)]),
  ip 2 (pMov (tg 7))]
@[simp] def oc5_2_ap := ops_rule (c := oc5_2) rfl
def cc5_1 : SC := sSeq (sReg (seqI oc5_2)) sRet
@[simp] def cc5_1_ap := seq_rule (c := cc5_1) rfl
def cc5_2 : SC := sSeq (sReg (seqI oc5_1)) cc5_1
@[simp] def cc5_2_ap := seq_rule (c := cc5_2) rfl
def dc5 : DFn := ⟨cc5_2, 8, [.t 2]⟩
theorem dc5_ok : fnOf Tryz.prog 39 = some dc5 := by kernel_rfl
def oc6_1 : List IS := [ip 2 (pMov (cv (.slice none 0 0)))]
@[simp] def oc6_1_ap := ops_rule (c := oc6_1) rfl
def oc6_2 : List IS := [ip 3 (pMov (tg 0)),
  ip 4 (pEqN false nilS true (tg 3) (cv (.slice none 0 0)))]
@[simp] def oc6_2_ap := ops_rule (c := oc6_2) rfl
def oc6_3 : List IS := [ip 2 (pMov (cv (.slice none 0 0)))]
def cc6_1 : SC := sSeq (sReg (seqI oc6_3)) sRet
def cc6_2 : SC := sCond (tg 4) cc6_1 sSkip
@[simp] def cc6_2_ap := cond_rule (c := cc6_2) rfl
def cc6_3 : SC := sSeq (sReg (seqI oc6_2)) cc6_2
@[simp] def cc6_3_ap := seq_rule (c := cc6_3) rfl
def oc6_4 : List IS := [im 1 5 (mBslice 1 0 (rep 0 [(.int .u64 0)]) []),
  ip 6 (pMov (tg 0)),
  im 3 7 (mAppend 1 8 (tg 5) (tg 6)),
  ip 2 (pMov (tg 7))]
@[simp] def oc6_4_ap := ops_rule (c := oc6_4) rfl
def cc6_4 : SC := sSeq (sReg (seqI oc6_4)) sRet
@[simp] def cc6_4_ap := seq_rule (c := cc6_4) rfl
def cc6_5 : SC := sSeq cc6_3 cc6_4
@[simp] def cc6_5_ap := seq_rule (c := cc6_5) rfl
def cc6_6 : SC := sSeq (sReg (seqI oc6_1)) cc6_5
@[simp] def cc6_6_ap := seq_rule (c := cc6_6) rfl
def dc6 : DFn := ⟨cc6_6, 8, [.t 2]⟩
theorem dc6_ok : fnOf Tryz.prog 40 = some dc6 := by kernel_rfl
def oc9_1 : List IS := [ip 4 (pMov (cv (.int .u64 0)))]
@[simp] def oc9_1_ap := ops_rule (c := oc9_1) rfl
def oc9_2 : List IS := [ip 5 (pMov (tg 0)),
  ip 6 (pMov (tg 0)),
  ip 7 (pLen (tg 6)),
  ip 8 (pBin .sub (tg 7) (cv (.int .i64 1))),
  ip 9 (pMov (tg 1)),
  im 3 10 (mCall 62 [(tg 5), (tg 8), (tg 9)]),
  ip 4 (pMov (tg 10))]
@[simp] def oc9_2_ap := ops_rule (c := oc9_2) rfl
def cc9_1 : SC := sSeq (sReg (seqI oc9_2)) sRet
@[simp] def cc9_1_ap := seq_rule (c := cc9_1) rfl
def cc9_2 : SC := sSeq (sReg (seqI oc9_1)) cc9_1
@[simp] def cc9_2_ap := seq_rule (c := cc9_2) rfl
def dc9 : DFn := ⟨cc9_2, 11, [.t 4]⟩
theorem dc9_ok : fnOf Tryz.prog 43 = some dc9 := by kernel_rfl
def od1_1 : List IS := [im 1 3 (mBox (tg 1)),
  im 1 4 (mAlloc [(.int .i64 0), (.int .i64 0), (.int .i64 0), (.int .u64 0), (.bool false), (.bool false)])]
@[simp] def od1_1_ap := ops_rule (c := od1_1) rfl
def od1_2 : List DA := [⟨CI.pure (pMov (tg 0)), (some 5), none, 0, []⟩,
  ⟨CI.pure (pNilck (tg 5)), (some 6), none, 1, []⟩,
  ⟨CI.pure (pFaddr 3 (tg 6)), (some 7), none, 2, []⟩,
  ⟨CI.load (tg 7) (mLoad1 (tg 7)), (some 8), none, 3, []⟩,
  ⟨CI.pure (pFaddr 1 (tg 3)), (some 9), none, 4, []⟩,
  ⟨CI.load (tg 9) (mLoad1 (tg 9)), (some 10), none, 5, []⟩,
  ⟨CI.pure (pFaddr 5 (tg 3)), (some 11), none, 6, []⟩,
  ⟨CI.load (tg 11) (mLoad1 (tg 11)), (some 12), none, 7, []⟩,
  ⟨CI.pure (pMov (tg 0)), (some 13), none, 8, []⟩,
  ⟨CI.pure (pNilck (tg 13)), (some 14), none, 9, []⟩,
  ⟨CI.pure (pFaddr 3 (tg 14)), (some 15), none, 10, []⟩,
  ⟨CI.load (tg 15) (mLoad1 (tg 15)), (some 16), none, 11, []⟩,
  ⟨CI.mem 3 (mCall 38 [(tg 12), (tg 16)]), (some 17), none, 12, [3, 5]⟩,
  ⟨CI.pure (pIaddrS 1 (tg 8) (tg 10)), (some 18), none, 13, []⟩,
  ⟨CI.mem 3 (mStore 1 (tg 18) (tg 17)), none, none, 14, []⟩]
@[simp] def od1_2_ap := das_rule (c := od1_2) rfl
def od1_3 : List IS := [ip 19 (pMov (tg 0)),
  ip 20 (pNilck (tg 19)),
  ip 21 (pFaddr 2 (tg 20)),
  il 22 (tg 21) (mLoad1 (tg 21)),
  ip 23 (pBin .add (tg 22) (cv (.int .i64 1))),
  ip 24 (pNilck (tg 19)),
  ip 25 (pFaddr 2 (tg 24)),
  im0 3 (mStore 1 (tg 25) (tg 23))]
@[simp] def od1_3_ap := ops_rule (c := od1_3) rfl
def od1_4 : List IS := [ip 26 (pBuild [(.int .i64 0), (.int .i64 0), (.int .i64 0), (.int .u64 0), (.bool false), (.bool false)] []),
  im0 3 (mStore 6 (tg 4) (tg 26))]
@[simp] def od1_4_ap := ops_rule (c := od1_4) rfl
def cd1_1 : SC := sSeq (sReg (seqI od1_4)) sRet
@[simp] def cd1_1_ap := seq_rule (c := cd1_1) rfl
def cd1_2 : SC := sSeq (sReg (seqI od1_3)) cd1_1
@[simp] def cd1_2_ap := seq_rule (c := cd1_2) rfl
def cd1_3 : SC := sSeq (sAny od1_2) cd1_2
@[simp] def cd1_3_ap := seq_rule (c := cd1_3) rfl
def cd1_4 : SC := sSeq (sReg (seqI od1_1)) cd1_3
@[simp] def cd1_4_ap := seq_rule (c := cd1_4) rfl
def dd1 : DFn := ⟨cd1_4, 27, [.cell 4 6]⟩
theorem dd1_ok : fnOf Tryz.prog 45 = some dd1 := by kernel_rfl
def od2_1 : List IS := [im 1 3 (mBox (tg 1)),
  im 1 4 (mAlloc [(.int .i64 0), (.int .i64 0), (.int .i64 0), (.int .u64 0), (.bool false), (.bool false)])]
@[simp] def od2_1_ap := ops_rule (c := od2_1) rfl
def od2_2 : List DA := [⟨CI.pure (pMov (tg 0)), (some 5), none, 0, []⟩,
  ⟨CI.load (tg 3) (mLoadN 11 (tg 3)), (some 6), none, 1, []⟩,
  ⟨CI.mem 3 (mCall 63 [(tg 5), (tg 6)]), (some 7), none, 2, []⟩,
  ⟨CI.pure (pFaddr 7 (tg 3)), (some 8), none, 3, []⟩,
  ⟨CI.load (tg 8) (mLoad1 (tg 8)), (some 9), none, 4, [2]⟩,
  ⟨CI.pure (pBuild [(.int .i64 0), (.int .i64 0), (.int .i64 0), (.int .u64 0), (.bool false), (.bool false)] [(0, 1, (cv (.int .i64 1))), (1, 1, (tg 7)), (2, 1, (tg 9))]), (some 10), none, 5, []⟩,
  ⟨CI.mem 3 (mStore 6 (tg 4) (tg 10)), none, none, 6, []⟩]
@[simp] def od2_2_ap := das_rule (c := od2_2) rfl
def cd2_1 : SC := sSeq (sAny od2_2) sRet
@[simp] def cd2_1_ap := seq_rule (c := cd2_1) rfl
def cd2_2 : SC := sSeq (sReg (seqI od2_1)) cd2_1
@[simp] def cd2_2_ap := seq_rule (c := cd2_2) rfl
def dd2 : DFn := ⟨cd2_2, 11, [.cell 4 6]⟩
theorem dd2_ok : fnOf Tryz.prog 46 = some dd2 := by kernel_rfl
def od3_1 : List IS := [im 1 3 (mBox (tg 1)),
  im 1 4 (mAlloc [(.int .i64 0), (.int .i64 0), (.int .i64 0), (.int .u64 0), (.bool false), (.bool false)])]
@[simp] def od3_1_ap := ops_rule (c := od3_1) rfl
def od3_2 : List DA := [⟨CI.pure (pMov (tg 0)), (some 5), none, 0, []⟩,
  ⟨CI.load (tg 3) (mLoadN 11 (tg 3)), (some 6), none, 1, []⟩,
  ⟨CI.mem 3 (mCall 63 [(tg 5), (tg 6)]), (some 7), none, 2, []⟩,
  ⟨CI.pure (pFaddr 7 (tg 3)), (some 8), none, 3, []⟩,
  ⟨CI.load (tg 8) (mLoad1 (tg 8)), (some 9), none, 4, [2]⟩,
  ⟨CI.pure (pFaddr 5 (tg 3)), (some 10), none, 5, []⟩,
  ⟨CI.load (tg 10) (mLoad1 (tg 10)), (some 11), none, 6, [2]⟩,
  ⟨CI.pure (pMov (tg 0)), (some 12), none, 7, []⟩,
  ⟨CI.pure (pNilck (tg 12)), (some 13), none, 8, []⟩,
  ⟨CI.pure (pFaddr 3 (tg 13)), (some 14), none, 9, []⟩,
  ⟨CI.load (tg 14) (mLoad1 (tg 14)), (some 15), none, 10, [2]⟩,
  ⟨CI.mem 3 (mCall 38 [(tg 11), (tg 15)]), (some 16), none, 11, [4]⟩,
  ⟨CI.pure (pBuild [(.int .i64 0), (.int .i64 0), (.int .i64 0), (.int .u64 0), (.bool false), (.bool false)] [(0, 1, (cv (.int .i64 2))), (1, 1, (tg 7)), (2, 1, (tg 9)), (3, 1, (tg 16))]), (some 17), none, 12, []⟩,
  ⟨CI.mem 3 (mStore 6 (tg 4) (tg 17)), none, none, 13, []⟩]
@[simp] def od3_2_ap := das_rule (c := od3_2) rfl
def cd3_1 : SC := sSeq (sAny od3_2) sRet
@[simp] def cd3_1_ap := seq_rule (c := cd3_1) rfl
def cd3_2 : SC := sSeq (sReg (seqI od3_1)) cd3_1
@[simp] def cd3_2_ap := seq_rule (c := cd3_2) rfl
def dd3 : DFn := ⟨cd3_2, 18, [.cell 4 6]⟩
theorem dd3_ok : fnOf Tryz.prog 47 = some dd3 := by kernel_rfl
def od4_1 : List IS := [im 1 3 (mBox (tg 1)),
  im 1 4 (mAlloc [(.int .i64 0), (.int .i64 0), (.int .i64 0), (.int .u64 0), (.bool false), (.bool false)])]
@[simp] def od4_1_ap := ops_rule (c := od4_1) rfl
def od4_2 : List DA := [⟨CI.pure (pMov (tg 0)), (some 6), none, 0, []⟩,
  ⟨CI.load (tg 3) (mLoadN 11 (tg 3)), (some 7), none, 1, []⟩,
  ⟨CI.mem 3 (mCall 63 [(tg 6), (tg 7)]), (some 8), none, 2, []⟩,
  ⟨CI.pure (pFaddr 7 (tg 3)), (some 9), none, 3, []⟩,
  ⟨CI.load (tg 9) (mLoad1 (tg 9)), (some 10), none, 4, [2]⟩,
  ⟨CI.mem 3 (mCall 64 [(tg 10)]), (some 11), none, 5, []⟩,
  ⟨CI.pure (pBuild [(.int .i64 0), (.int .i64 0), (.int .i64 0), (.int .u64 0), (.bool false), (.bool false)] [(0, 1, (cv (.int .i64 1))), (1, 1, (tg 8)), (2, 1, (tg 11)), (4, 1, (cv (.bool true)))]), (some 12), none, 6, []⟩,
  ⟨CI.mem 1 (mAlloc [(.int .i64 0), (.int .i64 0), (.int .i64 0), (.int .u64 0), (.bool false), (.bool false)]), (some 5), none, 7, []⟩,
  ⟨CI.mem 3 (mStore 6 (tg 5) (tg 12)), none, none, 8, []⟩]
@[simp] def od4_2_ap := das_rule (c := od4_2) rfl
def od4_3 : List IS := [ip 13 (pMov (tg 0)),
  ip 14 (pNilck (tg 13)),
  ip 15 (pFaddr 12 (tg 14)),
  il 16 (tg 15) (mLoad1 (tg 15))]
@[simp] def od4_3_ap := ops_rule (c := od4_3) rfl
def od4_4 : List DA := [⟨CI.pure (pFaddr 7 (tg 3)), (some 17), none, 0, []⟩,
  ⟨CI.load (tg 17) (mLoad1 (tg 17)), (some 18), none, 1, []⟩,
  ⟨CI.mem 3 (mCall 65 [(tg 18)]), (some 19), none, 2, []⟩,
  ⟨CI.pure (pFaddr 5 (tg 3)), (some 20), none, 3, []⟩,
  ⟨CI.load (tg 20) (mLoad1 (tg 20)), (some 21), none, 4, [2]⟩,
  ⟨CI.pure (pMov (tg 0)), (some 22), none, 5, []⟩,
  ⟨CI.pure (pNilck (tg 22)), (some 23), none, 6, []⟩,
  ⟨CI.pure (pFaddr 3 (tg 23)), (some 24), none, 7, []⟩,
  ⟨CI.load (tg 24) (mLoad1 (tg 24)), (some 25), none, 8, [2]⟩,
  ⟨CI.mem 3 (mCall 38 [(tg 21), (tg 25)]), (some 26), none, 9, []⟩,
  ⟨CI.pure (pFaddr 0 (tg 5)), (some 27), none, 10, []⟩,
  ⟨CI.mem 3 (mStore 1 (tg 27) (cv (.int .i64 2))), none, none, 11, []⟩,
  ⟨CI.pure (pFaddr 2 (tg 5)), (some 28), none, 12, []⟩,
  ⟨CI.mem 3 (mStore 1 (tg 28) (tg 19)), none, none, 13, []⟩,
  ⟨CI.pure (pFaddr 3 (tg 5)), (some 29), none, 14, []⟩,
  ⟨CI.mem 3 (mStore 1 (tg 29) (tg 26)), none, none, 15, []⟩]
@[simp] def od4_4_ap := das_rule (c := od4_4) rfl
def od4_5 : List IS := [ip 30 (pFaddr 0 (tg 3)),
  il 31 (tg 30) (mLoad1 (tg 30))]
@[simp] def od4_5_ap := ops_rule (c := od4_5) rfl
def od4_6 : List IS := [ip 33 (pBin .eql (tg 31) (cv (.int .i64 5))),
  ip 32 (pMov (tg 33))]
@[simp] def od4_6_ap := ops_rule (c := od4_6) rfl
def od4_7 : List DA := [⟨CI.pure (pFaddr 3 (tg 5)), (some 34), none, 0, []⟩,
  ⟨CI.load (tg 34) (mLoad1 (tg 34)), (some 35), none, 1, []⟩,
  ⟨CI.pure (pMov (tg 0)), (some 36), none, 2, []⟩,
  ⟨CI.pure (pNilck (tg 36)), (some 37), none, 3, []⟩,
  ⟨CI.pure (pFaddr 11 (tg 37)), (some 38), none, 4, []⟩,
  ⟨CI.load (tg 38) (mLoad1 (tg 38)), (some 39), none, 5, []⟩,
  ⟨CI.pure (pBin .add (tg 35) (tg 39)), (some 40), none, 6, []⟩,
  ⟨CI.pure (pFaddr 3 (tg 5)), (some 41), none, 7, []⟩,
  ⟨CI.mem 3 (mStore 1 (tg 41) (tg 40)), none, none, 8, []⟩]
@[simp] def od4_7_ap := das_rule (c := od4_7) rfl
def od4_8 : List IS := [ip 43 (pBin .eql (tg 31) (cv (.int .i64 6))),
  ip 42 (pMov (tg 43))]
@[simp] def od4_8_ap := ops_rule (c := od4_8) rfl
def od4_9 : List DA := [⟨CI.pure (pFaddr 6 (tg 3)), (some 44), none, 0, []⟩,
  ⟨CI.load (tg 44) (mLoad1 (tg 44)), (some 45), none, 1, []⟩,
  ⟨CI.pure (pMov (tg 0)), (some 46), none, 2, []⟩,
  ⟨CI.pure (pNilck (tg 46)), (some 47), none, 3, []⟩,
  ⟨CI.pure (pFaddr 3 (tg 47)), (some 48), none, 4, []⟩,
  ⟨CI.load (tg 48) (mLoad1 (tg 48)), (some 49), none, 5, []⟩,
  ⟨CI.mem 3 (mCall 38 [(tg 45), (tg 49)]), (some 50), none, 6, []⟩,
  ⟨CI.pure (pFaddr 3 (tg 5)), (some 51), none, 7, []⟩,
  ⟨CI.mem 3 (mStore 1 (tg 51) (tg 50)), none, none, 8, []⟩]
@[simp] def od4_9_ap := das_rule (c := od4_9) rfl
def cd4_1 : SC := sCond (tg 42) (sAny od4_9) sSkip
@[simp] def cd4_1_ap := cond_rule (c := cd4_1) rfl
def cd4_2 : SC := sSeq (sReg (seqI od4_8)) cd4_1
@[simp] def cd4_2_ap := seq_rule (c := cd4_2) rfl
def cd4_3 : SC := sCond (tg 32) (sAny od4_7) cd4_2
@[simp] def cd4_3_ap := cond_rule (c := cd4_3) rfl
def cd4_4 : SC := sSeq (sReg (seqI od4_6)) cd4_3
@[simp] def cd4_4_ap := seq_rule (c := cd4_4) rfl
def cd4_5 : SC := sBlock 0 cd4_4
@[simp] def cd4_5_ap := block_rule (c := cd4_5) rfl
def cd4_6 : SC := sSeq (sReg (seqI od4_5)) cd4_5
@[simp] def cd4_6_ap := seq_rule (c := cd4_6) rfl
def cd4_7 : SC := sSeq (sAny od4_4) cd4_6
@[simp] def cd4_7_ap := seq_rule (c := cd4_7) rfl
def cd4_8 : SC := sCond (tg 16) cd4_7 sSkip
@[simp] def cd4_8_ap := cond_rule (c := cd4_8) rfl
def cd4_9 : SC := sSeq (sReg (seqI od4_3)) cd4_8
@[simp] def cd4_9_ap := seq_rule (c := cd4_9) rfl
def od4_10 : List IS := [il 52 (tg 5) (mLoadN 6 (tg 5)),
  im0 3 (mStore 6 (tg 4) (tg 52))]
@[simp] def od4_10_ap := ops_rule (c := od4_10) rfl
def cd4_10 : SC := sSeq (sReg (seqI od4_10)) sRet
@[simp] def cd4_10_ap := seq_rule (c := cd4_10) rfl
def cd4_11 : SC := sSeq cd4_9 cd4_10
@[simp] def cd4_11_ap := seq_rule (c := cd4_11) rfl
def cd4_12 : SC := sSeq (sAny od4_2) cd4_11
@[simp] def cd4_12_ap := seq_rule (c := cd4_12) rfl
def cd4_13 : SC := sSeq (sReg (seqI od4_1)) cd4_12
@[simp] def cd4_13_ap := seq_rule (c := cd4_13) rfl
def dd4 : DFn := ⟨cd4_13, 53, [.cell 4 6]⟩
theorem dd4_ok : fnOf Tryz.prog 48 = some dd4 := by kernel_rfl
def od5_1 : List IS := [im 1 3 (mBox (tg 1)),
  im 1 4 (mAlloc [(.int .i64 0), (.int .i64 0), (.int .i64 0), (.int .u64 0), (.bool false), (.bool false)])]
@[simp] def od5_1_ap := ops_rule (c := od5_1) rfl
def od5_2 : List IS := [ip 5 (pFaddr 7 (tg 3)),
  il 6 (tg 5) (mLoad1 (tg 5)),
  ip 7 (pBuild [(.int .i64 0), (.int .i64 0), (.int .i64 0), (.int .u64 0), (.bool false), (.bool false)] [(0, 1, (cv (.int .i64 3))), (2, 1, (tg 6))]),
  im0 3 (mStore 6 (tg 4) (tg 7))]
@[simp] def od5_2_ap := ops_rule (c := od5_2) rfl
def cd5_1 : SC := sSeq (sReg (seqI od5_2)) sRet
@[simp] def cd5_1_ap := seq_rule (c := cd5_1) rfl
def cd5_2 : SC := sSeq (sReg (seqI od5_1)) cd5_1
@[simp] def cd5_2_ap := seq_rule (c := cd5_2) rfl
def dd5 : DFn := ⟨cd5_2, 8, [.cell 4 6]⟩
theorem dd5_ok : fnOf Tryz.prog 49 = some dd5 := by kernel_rfl
def od6_1 : List IS := [im 1 3 (mBox (tg 1)),
  im 1 4 (mAlloc [(.int .i64 0), (.int .i64 0), (.int .i64 0), (.int .u64 0), (.bool false), (.bool false)])]
@[simp] def od6_1_ap := ops_rule (c := od6_1) rfl
def od6_2 : List DA := [⟨CI.pure (pFaddr 5 (tg 3)), (some 5), none, 0, []⟩,
  ⟨CI.load (tg 5) (mLoad1 (tg 5)), (some 6), none, 1, []⟩,
  ⟨CI.pure (pMov (tg 0)), (some 7), none, 2, []⟩,
  ⟨CI.pure (pNilck (tg 7)), (some 8), none, 3, []⟩,
  ⟨CI.pure (pFaddr 3 (tg 8)), (some 9), none, 4, []⟩,
  ⟨CI.load (tg 9) (mLoad1 (tg 9)), (some 10), none, 5, []⟩,
  ⟨CI.mem 3 (mCall 38 [(tg 6), (tg 10)]), (some 11), none, 6, []⟩,
  ⟨CI.pure (pBuild [(.int .i64 0), (.int .i64 0), (.int .i64 0), (.int .u64 0), (.bool false), (.bool false)] [(0, 1, (cv (.int .i64 4))), (3, 1, (tg 11))]), (some 12), none, 7, []⟩,
  ⟨CI.mem 3 (mStore 6 (tg 4) (tg 12)), none, none, 8, []⟩]
@[simp] def od6_2_ap := das_rule (c := od6_2) rfl
def cd6_1 : SC := sSeq (sAny od6_2) sRet
@[simp] def cd6_1_ap := seq_rule (c := cd6_1) rfl
def cd6_2 : SC := sSeq (sReg (seqI od6_1)) cd6_1
@[simp] def cd6_2_ap := seq_rule (c := cd6_2) rfl
def dd6 : DFn := ⟨cd6_2, 13, [.cell 4 6]⟩
theorem dd6_ok : fnOf Tryz.prog 50 = some dd6 := by kernel_rfl
def od7_1 : List IS := [im 1 3 (mBox (tg 1)),
  im 1 4 (mAlloc [(.int .i64 0), (.int .i64 0), (.int .i64 0), (.int .u64 0), (.bool false), (.bool false)])]
@[simp] def od7_1_ap := ops_rule (c := od7_1) rfl
def od7_2 : List IS := [ip 5 (pMov (tg 0)),
  ip 6 (pFaddr 8 (tg 3)),
  il 7 (tg 6) (mLoad1 (tg 6)),
  ip 8 (pNilck (tg 5)),
  ip 9 (pFaddr 2 (tg 8)),
  im0 3 (mStore 1 (tg 9) (tg 7))]
@[simp] def od7_2_ap := ops_rule (c := od7_2) rfl
def od7_3 : List IS := [ip 10 (pBuild [(.int .i64 0), (.int .i64 0), (.int .i64 0), (.int .u64 0), (.bool false), (.bool false)] []),
  im0 3 (mStore 6 (tg 4) (tg 10))]
@[simp] def od7_3_ap := ops_rule (c := od7_3) rfl
def cd7_1 : SC := sSeq (sReg (seqI od7_3)) sRet
@[simp] def cd7_1_ap := seq_rule (c := cd7_1) rfl
def cd7_2 : SC := sSeq (sReg (seqI od7_2)) cd7_1
@[simp] def cd7_2_ap := seq_rule (c := cd7_2) rfl
def cd7_3 : SC := sSeq (sReg (seqI od7_1)) cd7_2
@[simp] def cd7_3_ap := seq_rule (c := cd7_3) rfl
def dd7 : DFn := ⟨cd7_3, 11, [.cell 4 6]⟩
theorem dd7_ok : fnOf Tryz.prog 51 = some dd7 := by kernel_rfl
def od8_1 : List IS := [im 1 3 (mBox (tg 1)),
  im 1 4 (mAlloc [(.int .i64 0), (.int .i64 0), (.int .i64 0), (.int .u64 0), (.bool false), (.bool false)])]
@[simp] def od8_1_ap := ops_rule (c := od8_1) rfl
def od8_2 : List IS := [ip 5 (pMov (tg 0)),
  ip 6 (pNilck (tg 5)),
  ip 7 (pFaddr 2 (tg 6)),
  il 8 (tg 7) (mLoad1 (tg 7)),
  ip 9 (pBin .add (tg 8) (cv (.int .i64 1))),
  ip 10 (pNilck (tg 5)),
  ip 11 (pFaddr 2 (tg 10)),
  im0 3 (mStore 1 (tg 11) (tg 9))]
@[simp] def od8_2_ap := ops_rule (c := od8_2) rfl
def od8_3 : List DA := [⟨CI.pure (pFaddr 5 (tg 3)), (some 12), none, 0, []⟩,
  ⟨CI.load (tg 12) (mLoad1 (tg 12)), (some 13), none, 1, []⟩,
  ⟨CI.pure (pMov (tg 0)), (some 14), none, 2, []⟩,
  ⟨CI.pure (pNilck (tg 14)), (some 15), none, 3, []⟩,
  ⟨CI.pure (pFaddr 3 (tg 15)), (some 16), none, 4, []⟩,
  ⟨CI.load (tg 16) (mLoad1 (tg 16)), (some 17), none, 5, []⟩,
  ⟨CI.mem 3 (mCall 38 [(tg 13), (tg 17)]), (some 18), none, 6, []⟩,
  ⟨CI.pure (pBin .eql (tg 18) (cv (.int .u64 0))), (some 19), none, 7, []⟩]
@[simp] def od8_3_ap := das_rule (c := od8_3) rfl
def od8_4 : List IS := [ip 20 (pMov (tg 0)),
  ip 21 (pFaddr 8 (tg 3)),
  il 22 (tg 21) (mLoad1 (tg 21)),
  ip 23 (pNilck (tg 20)),
  ip 24 (pFaddr 2 (tg 23)),
  im0 3 (mStore 1 (tg 24) (tg 22))]
@[simp] def od8_4_ap := ops_rule (c := od8_4) rfl
def cd8_1 : SC := sCond (tg 19) (sReg (seqI od8_4)) sSkip
@[simp] def cd8_1_ap := cond_rule (c := cd8_1) rfl
def cd8_2 : SC := sSeq (sAny od8_3) cd8_1
@[simp] def cd8_2_ap := seq_rule (c := cd8_2) rfl
def od8_5 : List IS := [ip 25 (pBuild [(.int .i64 0), (.int .i64 0), (.int .i64 0), (.int .u64 0), (.bool false), (.bool false)] []),
  im0 3 (mStore 6 (tg 4) (tg 25))]
@[simp] def od8_5_ap := ops_rule (c := od8_5) rfl
def cd8_3 : SC := sSeq (sReg (seqI od8_5)) sRet
@[simp] def cd8_3_ap := seq_rule (c := cd8_3) rfl
def cd8_4 : SC := sSeq cd8_2 cd8_3
@[simp] def cd8_4_ap := seq_rule (c := cd8_4) rfl
def cd8_5 : SC := sSeq (sReg (seqI od8_2)) cd8_4
@[simp] def cd8_5_ap := seq_rule (c := cd8_5) rfl
def cd8_6 : SC := sSeq (sReg (seqI od8_1)) cd8_5
@[simp] def cd8_6_ap := seq_rule (c := cd8_6) rfl
def dd8 : DFn := ⟨cd8_6, 26, [.cell 4 6]⟩
theorem dd8_ok : fnOf Tryz.prog 52 = some dd8 := by kernel_rfl
def od9_1 : List IS := [im 1 3 (mBox (tg 0)),
  im 1 4 (mBox (tg 1)),
  im 1 5 (mBox (tg 2)),
  ip 6 (pMov (cv (.bool false)))]
@[simp] def od9_1_ap := ops_rule (c := od9_1) rfl
def od9_2 : List IS := [ip 8 (pFaddr 0 (tg 3)),
  il 9 (tg 8) (mLoad1 (tg 8)),
  ip 10 (pBin .lss (tg 9) (cv (.int .i64 1))),
  ip 11 (pMov (tg 10)),
  gd 11 false (some 12) (ip 12 (pFaddr 0 (tg 3))),
  gd 11 false (some 13) (il 13 (tg 12) (mLoad1 (tg 12))),
  gd 11 false (some 14) (ip 14 (pBin .gtr (tg 13) (cv (.int .i64 10)))),
  ip 15 (pPick (tg 11) (cv (.bool true)) (tg 14)),
  ip 16 (pMov (tg 15)),
  gd 16 false (some 17) (ip 17 (pFaddr 0 (tg 3))),
  gd 16 false (some 18) (il 18 (tg 17) (mLoad1 (tg 17))),
  gd 16 false (some 19) (ip 19 (pFaddr 7 (tg 3))),
  gd 16 false (some 20) (il 20 (tg 19) (mLoad1 (tg 19))),
  gd 16 false (some 21) (im 3 21 (mCall 68 [(tg 18), (tg 20)])),
  gd 16 false (some 22) (ip 22 (pUn .not (tg 21))),
  ip 23 (pPick (tg 16) (cv (.bool true)) (tg 22))]
@[simp] def od9_2_ap := ops_rule (c := od9_2) rfl
def od9_3 : List IS := [ip 6 (pMov (cv (.bool false)))]
@[simp] def od9_3_ap := ops_rule (c := od9_3) rfl
def cd9_1 : SC := sSeq (sReg (seqI od9_3)) sRet
@[simp] def cd9_1_ap := seq_rule (c := cd9_1) rfl
def cd9_2 : SC := sCond (tg 23) cd9_1 sSkip
@[simp] def cd9_2_ap := cond_rule (c := cd9_2) rfl
def cd9_3 : SC := sSeq (sReg (seqI od9_2)) cd9_2
@[simp] def cd9_3_ap := seq_rule (c := cd9_3) rfl
def od9_4 : List IS := [ip 24 (pFaddr 0 (tg 3)),
  il 25 (tg 24) (mLoad1 (tg 24)),
  im 3 26 (mCall 69 [(tg 25)]),
  im 1 7 (mAlloc [(.bool false), (.bool false), (.bool false), (.bool false), (.bool false)]),
  im0 3 (mStore 5 (tg 7) (tg 26))]
@[simp] def od9_4_ap := ops_rule (c := od9_4) rfl
def od9_5 : List IS := [ip 28 (pFaddr 0 (tg 7)),
  il 29 (tg 28) (mLoad1 (tg 28)),
  ip 30 (pMov (tg 29)),
  gd 30 true (some 31) (ip 31 (pFaddr 1 (tg 3))),
  gd 30 true (some 32) (il 32 (tg 31) (mLoad1 (tg 31))),
  gd 30 true (some 33) (ip 33 (pBin .lss (tg 32) (cv (.int .i64 0)))),
  gd 30 true (some 34) (ip 34 (pMov (tg 33))),
  gd 34 false (some 35) (ip 35 (pFaddr 1 (tg 3))),
  gd 34 false (some 36) (il 36 (tg 35) (mLoad1 (tg 35))),
  gd 34 false (some 37) (ip 37 (pFaddr 0 (tg 5))),
  gd 34 false (some 38) (il 38 (tg 37) (mLoad1 (tg 37))),
  gd 34 false (some 39) (ip 39 (pBin .geq (tg 36) (tg 38))),
  gd 30 true (some 40) (ip 40 (pPick (tg 34) (cv (.bool true)) (tg 39))),
  ip 41 (pPick (tg 30) (tg 40) (cv (.bool false))),
  ip 27 (pMov (tg 41))]
@[simp] def od9_5_ap := ops_rule (c := od9_5) rfl
def od9_6 : List IS := [ip 42 (pFaddr 0 (tg 7)),
  il 43 (tg 42) (mLoad1 (tg 42)),
  ip 44 (pUn .not (tg 43)),
  ip 45 (pMov (tg 44)),
  gd 45 true (some 46) (ip 46 (pFaddr 1 (tg 3))),
  gd 45 true (some 47) (il 47 (tg 46) (mLoad1 (tg 46))),
  gd 45 true (some 48) (ip 48 (pBin .neq (tg 47) (cv (.int .i64 0)))),
  ip 49 (pPick (tg 45) (tg 48) (cv (.bool false))),
  ip 27 (pMov (tg 49))]
@[simp] def od9_6_ap := ops_rule (c := od9_6) rfl
def cd9_4 : SC := sCond (tg 27) sSkip (sReg (seqI od9_6))
@[simp] def cd9_4_ap := cond_rule (c := cd9_4) rfl
def cd9_5 : SC := sSeq (sReg (seqI od9_5)) cd9_4
@[simp] def cd9_5_ap := seq_rule (c := cd9_5) rfl
def od9_7 : List IS := [ip 6 (pMov (cv (.bool false)))]
@[simp] def od9_7_ap := ops_rule (c := od9_7) rfl
def cd9_6 : SC := sSeq (sReg (seqI od9_7)) sRet
@[simp] def cd9_6_ap := seq_rule (c := cd9_6) rfl
def od9_8 : List IS := [ip 51 (pFaddr 1 (tg 7)),
  il 52 (tg 51) (mLoad1 (tg 51)),
  ip 53 (pMov (tg 52)),
  gd 53 true (some 54) (il 54 (tg 3) (mLoadN 11 (tg 3))),
  gd 53 true (some 55) (il 55 (tg 4) (mLoadN 2 (tg 4))),
  gd 53 true (some 56) (ip 56 (pFaddr 0 (tg 5))),
  gd 53 true (some 57) (il 57 (tg 56) (mLoad1 (tg 56))),
  gd 53 true (some 58) (im 3 58 (mCall 70 [(tg 54), (tg 55), (tg 57)])),
  gd 53 true (some 59) (ip 59 (pUn .not (tg 58))),
  ip 60 (pPick (tg 53) (tg 59) (cv (.bool false))),
  ip 50 (pMov (tg 60))]
@[simp] def od9_8_ap := ops_rule (c := od9_8) rfl
def od9_9 : List IS := [ip 61 (pFaddr 1 (tg 7)),
  il 62 (tg 61) (mLoad1 (tg 61)),
  ip 63 (pUn .not (tg 62)),
  ip 64 (pMov (tg 63)),
  gd 64 true (some 65) (ip 65 (pFaddr 2 (tg 3))),
  gd 64 true (some 66) (il 66 (tg 65) (mLoad1 (tg 65))),
  gd 64 true (some 67) (ip 67 (pBin .neq (tg 66) (cv (.int .i64 0)))),
  gd 64 true (some 68) (ip 68 (pMov (tg 67))),
  gd 68 false (some 69) (ip 69 (pFaddr 3 (tg 3))),
  gd 68 false (some 70) (il 70 (tg 69) (mLoad1 (tg 69))),
  gd 68 false (some 71) (ip 71 (pBin .neq (tg 70) (cv (.int .i64 0)))),
  gd 64 true (some 72) (ip 72 (pPick (tg 68) (cv (.bool true)) (tg 71))),
  gd 64 true (some 73) (ip 73 (pMov (tg 72))),
  gd 73 false (some 74) (ip 74 (pFaddr 4 (tg 3))),
  gd 73 false (some 75) (il 75 (tg 74) (mLoad1 (tg 74))),
  gd 73 false (some 76) (ip 76 (pLen (tg 75))),
  gd 73 false (some 77) (ip 77 (pBin .gtr (tg 76) (cv (.int .i64 0)))),
  gd 64 true (some 78) (ip 78 (pPick (tg 73) (cv (.bool true)) (tg 77))),
  ip 79 (pPick (tg 64) (tg 78) (cv (.bool false))),
  ip 50 (pMov (tg 79))]
@[simp] def od9_9_ap := ops_rule (c := od9_9) rfl
def cd9_7 : SC := sCond (tg 50) sSkip (sReg (seqI od9_9))
@[simp] def cd9_7_ap := cond_rule (c := cd9_7) rfl
def cd9_8 : SC := sSeq (sReg (seqI od9_8)) cd9_7
@[simp] def cd9_8_ap := seq_rule (c := cd9_8) rfl
def od9_10 : List IS := [ip 6 (pMov (cv (.bool false)))]
@[simp] def od9_10_ap := ops_rule (c := od9_10) rfl
def cd9_9 : SC := sSeq (sReg (seqI od9_10)) sRet
@[simp] def cd9_9_ap := seq_rule (c := cd9_9) rfl
def od9_11 : List IS := [ip 81 (pFaddr 2 (tg 7)),
  il 82 (tg 81) (mLoad1 (tg 81)),
  ip 83 (pFaddr 5 (tg 3)),
  il 84 (tg 83) (mLoad1 (tg 83)),
  ip 85 (pLen (tg 84)),
  ip 86 (pBin .gtr (tg 85) (cv (.int .i64 0))),
  ip 87 (pEqB true (tg 82) (tg 86)),
  ip 80 (pMov (tg 87))]
@[simp] def od9_11_ap := ops_rule (c := od9_11) rfl
def od9_12 : List IS := [ip 88 (pFaddr 3 (tg 7)),
  il 89 (tg 88) (mLoad1 (tg 88)),
  ip 90 (pFaddr 6 (tg 3)),
  il 91 (tg 90) (mLoad1 (tg 90)),
  ip 92 (pLen (tg 91)),
  ip 93 (pBin .gtr (tg 92) (cv (.int .i64 0))),
  ip 94 (pEqB true (tg 89) (tg 93)),
  ip 80 (pMov (tg 94))]
@[simp] def od9_12_ap := ops_rule (c := od9_12) rfl
def od9_13 : List IS := [ip 95 (pFaddr 2 (tg 7)),
  il 96 (tg 95) (mLoad1 (tg 95)),
  ip 97 (pMov (tg 96)),
  gd 97 true (some 98) (ip 98 (pFaddr 5 (tg 3))),
  gd 97 true (some 99) (il 99 (tg 98) (mLoad1 (tg 98))),
  gd 97 true (some 100) (ip 100 (pFaddr 0 (tg 5))),
  gd 97 true (some 101) (il 101 (tg 100) (mLoad1 (tg 100))),
  gd 97 true (some 102) (im 3 102 (mCall 71 [(tg 99), (tg 101)])),
  gd 97 true (some 103) (ip 103 (pUn .not (tg 102))),
  ip 104 (pPick (tg 97) (tg 103) (cv (.bool false))),
  ip 80 (pMov (tg 104))]
@[simp] def od9_13_ap := ops_rule (c := od9_13) rfl
def od9_14 : List IS := [ip 105 (pFaddr 3 (tg 7)),
  il 106 (tg 105) (mLoad1 (tg 105)),
  ip 107 (pMov (tg 106)),
  gd 107 true (some 108) (ip 108 (pFaddr 6 (tg 3))),
  gd 107 true (some 109) (il 109 (tg 108) (mLoad1 (tg 108))),
  gd 107 true (some 110) (ip 110 (pFaddr 0 (tg 5))),
  gd 107 true (some 111) (il 111 (tg 110) (mLoad1 (tg 110))),
  gd 107 true (some 112) (im 3 112 (mCall 71 [(tg 109), (tg 111)])),
  gd 107 true (some 113) (ip 113 (pUn .not (tg 112))),
  ip 114 (pPick (tg 107) (tg 113) (cv (.bool false))),
  ip 80 (pMov (tg 114))]
@[simp] def od9_14_ap := ops_rule (c := od9_14) rfl
def cd9_10 : SC := sCond (tg 80) sSkip (sReg (seqI od9_14))
@[simp] def cd9_10_ap := cond_rule (c := cd9_10) rfl
def cd9_11 : SC := sSeq (sReg (seqI od9_13)) cd9_10
@[simp] def cd9_11_ap := seq_rule (c := cd9_11) rfl
def cd9_12 : SC := sCond (tg 80) sSkip cd9_11
@[simp] def cd9_12_ap := cond_rule (c := cd9_12) rfl
def cd9_13 : SC := sSeq (sReg (seqI od9_12)) cd9_12
@[simp] def cd9_13_ap := seq_rule (c := cd9_13) rfl
def cd9_14 : SC := sCond (tg 80) sSkip cd9_13
@[simp] def cd9_14_ap := cond_rule (c := cd9_14) rfl
def cd9_15 : SC := sSeq (sReg (seqI od9_11)) cd9_14
@[simp] def cd9_15_ap := seq_rule (c := cd9_15) rfl
def od9_15 : List IS := [ip 6 (pMov (cv (.bool false)))]
@[simp] def od9_15_ap := ops_rule (c := od9_15) rfl
def cd9_16 : SC := sSeq (sReg (seqI od9_15)) sRet
@[simp] def cd9_16_ap := seq_rule (c := cd9_16) rfl
def od9_16 : List IS := [ip 116 (pFaddr 4 (tg 7)),
  il 117 (tg 116) (mLoad1 (tg 116)),
  ip 118 (pMov (tg 117)),
  gd 118 true (some 119) (ip 119 (pFaddr 8 (tg 3))),
  gd 118 true (some 120) (il 120 (tg 119) (mLoad1 (tg 119))),
  gd 118 true (some 121) (ip 121 (pBin .lss (tg 120) (cv (.int .i64 0)))),
  gd 118 true (some 122) (ip 122 (pMov (tg 121))),
  gd 122 false (some 123) (ip 123 (pFaddr 8 (tg 3))),
  gd 122 false (some 124) (il 124 (tg 123) (mLoad1 (tg 123))),
  gd 122 false (some 125) (ip 125 (pFaddr 1 (tg 5))),
  gd 122 false (some 126) (il 126 (tg 125) (mLoad1 (tg 125))),
  gd 122 false (some 127) (ip 127 (pLen (tg 126))),
  gd 122 false (some 128) (ip 128 (pBin .gtr (tg 124) (tg 127))),
  gd 118 true (some 129) (ip 129 (pPick (tg 122) (cv (.bool true)) (tg 128))),
  ip 130 (pPick (tg 118) (tg 129) (cv (.bool false))),
  ip 115 (pMov (tg 130))]
@[simp] def od9_16_ap := ops_rule (c := od9_16) rfl
def od9_17 : List IS := [ip 131 (pFaddr 4 (tg 7)),
  il 132 (tg 131) (mLoad1 (tg 131)),
  ip 133 (pUn .not (tg 132)),
  ip 134 (pMov (tg 133)),
  gd 134 true (some 135) (ip 135 (pFaddr 8 (tg 3))),
  gd 134 true (some 136) (il 136 (tg 135) (mLoad1 (tg 135))),
  gd 134 true (some 137) (ip 137 (pBin .neq (tg 136) (cv (.int .i64 0)))),
  ip 138 (pPick (tg 134) (tg 137) (cv (.bool false))),
  ip 115 (pMov (tg 138))]
@[simp] def od9_17_ap := ops_rule (c := od9_17) rfl
def cd9_17 : SC := sCond (tg 115) sSkip (sReg (seqI od9_17))
@[simp] def cd9_17_ap := cond_rule (c := cd9_17) rfl
def cd9_18 : SC := sSeq (sReg (seqI od9_16)) cd9_17
@[simp] def cd9_18_ap := seq_rule (c := cd9_18) rfl
def od9_18 : List IS := [ip 6 (pMov (cv (.bool false)))]
@[simp] def od9_18_ap := ops_rule (c := od9_18) rfl
def cd9_19 : SC := sSeq (sReg (seqI od9_18)) sRet
@[simp] def cd9_19_ap := seq_rule (c := cd9_19) rfl
def cd9_20 : SC := sCond (tg 115) cd9_19 sSkip
@[simp] def cd9_20_ap := cond_rule (c := cd9_20) rfl
def cd9_21 : SC := sSeq cd9_18 cd9_20
@[simp] def cd9_21_ap := seq_rule (c := cd9_21) rfl
def cd9_22 : SC := sCond (tg 80) cd9_16 cd9_21
@[simp] def cd9_22_ap := cond_rule (c := cd9_22) rfl
def cd9_23 : SC := sSeq cd9_15 cd9_22
@[simp] def cd9_23_ap := seq_rule (c := cd9_23) rfl
def cd9_24 : SC := sCond (tg 50) cd9_9 cd9_23
@[simp] def cd9_24_ap := cond_rule (c := cd9_24) rfl
def cd9_25 : SC := sSeq cd9_8 cd9_24
@[simp] def cd9_25_ap := seq_rule (c := cd9_25) rfl
def cd9_26 : SC := sCond (tg 27) cd9_6 cd9_25
@[simp] def cd9_26_ap := cond_rule (c := cd9_26) rfl
def cd9_27 : SC := sSeq cd9_5 cd9_26
@[simp] def cd9_27_ap := seq_rule (c := cd9_27) rfl
def cd9_28 : SC := sBlock 0 cd9_27
@[simp] def cd9_28_ap := block_rule (c := cd9_28) rfl
def od9_19 : List IS := [ip 6 (pMov (cv (.bool true)))]
@[simp] def od9_19_ap := ops_rule (c := od9_19) rfl
def cd9_29 : SC := sSeq (sReg (seqI od9_19)) sRet
@[simp] def cd9_29_ap := seq_rule (c := cd9_29) rfl
def cd9_30 : SC := sSeq cd9_28 cd9_29
@[simp] def cd9_30_ap := seq_rule (c := cd9_30) rfl
def cd9_31 : SC := sSeq (sReg (seqI od9_4)) cd9_30
@[simp] def cd9_31_ap := seq_rule (c := cd9_31) rfl
def cd9_32 : SC := sSeq cd9_3 cd9_31
@[simp] def cd9_32_ap := seq_rule (c := cd9_32) rfl
def cd9_33 : SC := sSeq (sReg (seqI od9_1)) cd9_32
@[simp] def cd9_33_ap := seq_rule (c := cd9_33) rfl
def dd9 : DFn := ⟨cd9_33, 139, [.t 6]⟩
theorem dd9_ok : fnOf Tryz.prog 54 = some dd9 := by kernel_rfl
def oe4_1 : List IS := [ip 4 (pMov (cv (.bool false)))]
@[simp] def oe4_1_ap := ops_rule (c := oe4_1) rfl
def oe4_2 : List IS := [ip 9 (pMov (tg 0)),
  ip 10 (pLen (tg 9)),
  ip 11 (pBin .eql (tg 10) (cv (.int .i64 0))),
  ip 12 (pMov (tg 11)),
  gd 12 false (some 13) (ip 13 (pMov (tg 0))),
  gd 12 false (some 14) (ip 14 (pLen (tg 13))),
  gd 12 false (some 15) (ip 15 (pBin .gtr (tg 14) (cv (.int .i64 65536)))),
  ip 16 (pPick (tg 12) (cv (.bool true)) (tg 15))]
@[simp] def oe4_2_ap := ops_rule (c := oe4_2) rfl
def oe4_3 : List IS := [ip 4 (pMov (cv (.bool false)))]
@[simp] def oe4_3_ap := ops_rule (c := oe4_3) rfl
def ce4_1 : SC := sSeq (sReg (seqI oe4_3)) sRet
@[simp] def ce4_1_ap := seq_rule (c := ce4_1) rfl
def ce4_2 : SC := sCond (tg 16) ce4_1 sSkip
@[simp] def ce4_2_ap := cond_rule (c := ce4_2) rfl
def ce4_3 : SC := sSeq (sReg (seqI oe4_2)) ce4_2
@[simp] def ce4_3_ap := seq_rule (c := ce4_3) rfl
def oe4_4 : List IS := [ip 17 (pMov (tg 0)),
  ip 18 (pLen (tg 17)),
  im 1 19 (mMkslice 1 1 [(.bool false)] (tg 18) (tg 18)),
  ip 5 (pMov (tg 19))]
@[simp] def oe4_4_ap := ops_rule (c := oe4_4) rfl
def oe4_5 : List IS := [ip 6 (pMov (cv (.int .i64 0)))]
@[simp] def oe4_5_ap := ops_rule (c := oe4_5) rfl
def oe4_6 : List IS := [ip 20 (pMov (tg 6)),
  ip 21 (pMov (tg 0)),
  ip 22 (pLen (tg 21)),
  ip 23 (pBin .lss (tg 20) (tg 22))]
@[simp] def oe4_6_ap := ops_rule (c := oe4_6) rfl
def ce4_4 : SC := sCond (tg 23) sSkip (sExit 0)
@[simp] def ce4_4_ap := cond_rule (c := ce4_4) rfl
def ce4_5 : SC := sSeq (sReg (seqI oe4_6)) ce4_4
@[simp] def ce4_5_ap := seq_rule (c := ce4_5) rfl
def oe4_7 : List IS := [ip 26 (pMov (tg 0)),
  ip 27 (pMov (tg 6)),
  ip 28 (pIaddrS 4 (tg 26) (tg 27)),
  il 29 (tg 28) (mLoadN 4 (tg 28)),
  im 1 7 (mAlloc [(.int .i64 0), (.int .u64 0), (.int .i64 0), (.int .i64 0)]),
  im0 3 (mStore 4 (tg 7) (tg 29))]
@[simp] def oe4_7_ap := ops_rule (c := oe4_7) rfl
def oe4_8 : List IS := [ip 30 (pFaddr 0 (tg 7)),
  il 31 (tg 30) (mLoad1 (tg 30)),
  ip 32 (pBin .eql (tg 31) (cv (.int .i64 1))),
  ip 33 (pMov (tg 32)),
  gd 33 false (some 34) (ip 34 (pFaddr 0 (tg 7))),
  gd 33 false (some 35) (il 35 (tg 34) (mLoad1 (tg 34))),
  gd 33 false (some 36) (ip 36 (pBin .eql (tg 35) (cv (.int .i64 2)))),
  ip 37 (pPick (tg 33) (cv (.bool true)) (tg 36))]
@[simp] def oe4_8_ap := ops_rule (c := oe4_8) rfl
def oe4_9 : List IS := [ip 38 (pFaddr 2 (tg 7)),
  il 39 (tg 38) (mLoad1 (tg 38)),
  ip 40 (pBin .neq (tg 39) (cv (.int .i64 0))),
  ip 41 (pMov (tg 40)),
  gd 41 false (some 42) (ip 42 (pFaddr 3 (tg 7))),
  gd 41 false (some 43) (il 43 (tg 42) (mLoad1 (tg 42))),
  gd 41 false (some 44) (ip 44 (pBin .neq (tg 43) (cv (.int .i64 0)))),
  ip 45 (pPick (tg 41) (cv (.bool true)) (tg 44)),
  ip 46 (pMov (tg 45)),
  gd 46 false (some 47) (ip 47 (pFaddr 0 (tg 7))),
  gd 46 false (some 48) (il 48 (tg 47) (mLoad1 (tg 47))),
  gd 46 false (some 49) (ip 49 (pBin .eql (tg 48) (cv (.int .i64 2)))),
  gd 46 false (some 50) (ip 50 (pMov (tg 49))),
  gd 50 true (some 51) (ip 51 (pFaddr 1 (tg 7))),
  gd 50 true (some 52) (il 52 (tg 51) (mLoad1 (tg 51))),
  gd 50 true (some 53) (ip 53 (pMov (tg 1))),
  gd 50 true (some 54) (ip 54 (pConvI .u64 (tg 53))),
  gd 50 true (some 55) (ip 55 (pBin .geq (tg 52) (tg 54))),
  gd 46 false (some 56) (ip 56 (pPick (tg 50) (tg 55) (cv (.bool false)))),
  ip 57 (pPick (tg 46) (cv (.bool true)) (tg 56))]
@[simp] def oe4_9_ap := ops_rule (c := oe4_9) rfl
def oe4_10 : List IS := [ip 4 (pMov (cv (.bool false)))]
@[simp] def oe4_10_ap := ops_rule (c := oe4_10) rfl
def ce4_6 : SC := sSeq (sReg (seqI oe4_10)) sRet
@[simp] def ce4_6_ap := seq_rule (c := ce4_6) rfl
def ce4_7 : SC := sCond (tg 57) ce4_6 sSkip
@[simp] def ce4_7_ap := cond_rule (c := ce4_7) rfl
def ce4_8 : SC := sSeq (sReg (seqI oe4_9)) ce4_7
@[simp] def ce4_8_ap := seq_rule (c := ce4_8) rfl
def ce4_9 : SC := sSeq ce4_8 (sExit 1)
@[simp] def ce4_9_ap := seq_rule (c := ce4_9) rfl
def ce4_10 : SC := sCond (tg 37) ce4_9 sSkip
@[simp] def ce4_10_ap := cond_rule (c := ce4_10) rfl
def ce4_11 : SC := sSeq (sReg (seqI oe4_8)) ce4_10
@[simp] def ce4_11_ap := seq_rule (c := ce4_11) rfl
def oe4_11 : List IS := [ip 58 (pFaddr 0 (tg 7)),
  il 59 (tg 58) (mLoad1 (tg 58)),
  ip 60 (pBin .lss (tg 59) (cv (.int .i64 1))),
  ip 61 (pMov (tg 60)),
  gd 61 false (some 62) (ip 62 (pFaddr 0 (tg 7))),
  gd 61 false (some 63) (il 63 (tg 62) (mLoad1 (tg 62))),
  gd 61 false (some 64) (ip 64 (pBin .gtr (tg 63) (cv (.int .i64 19)))),
  ip 65 (pPick (tg 61) (cv (.bool true)) (tg 64)),
  ip 66 (pMov (tg 65)),
  gd 66 false (some 67) (ip 67 (pFaddr 1 (tg 7))),
  gd 66 false (some 68) (il 68 (tg 67) (mLoad1 (tg 67))),
  gd 66 false (some 69) (ip 69 (pBin .neq (tg 68) (cv (.int .u64 0)))),
  ip 70 (pPick (tg 66) (cv (.bool true)) (tg 69)),
  ip 71 (pMov (tg 70)),
  gd 71 false (some 72) (ip 72 (pFaddr 2 (tg 7))),
  gd 71 false (some 73) (il 73 (tg 72) (mLoad1 (tg 72))),
  gd 71 false (some 74) (ip 74 (pBin .lss (tg 73) (cv (.int .i64 0)))),
  ip 75 (pPick (tg 71) (cv (.bool true)) (tg 74)),
  ip 76 (pMov (tg 75)),
  gd 76 false (some 77) (ip 77 (pFaddr 2 (tg 7))),
  gd 76 false (some 78) (il 78 (tg 77) (mLoad1 (tg 77))),
  gd 76 false (some 79) (ip 79 (pMov (tg 6))),
  gd 76 false (some 80) (ip 80 (pBin .geq (tg 78) (tg 79))),
  ip 81 (pPick (tg 76) (cv (.bool true)) (tg 80)),
  ip 82 (pMov (tg 81)),
  gd 82 false (some 83) (ip 83 (pMov (tg 5))),
  gd 82 false (some 84) (ip 84 (pFaddr 2 (tg 7))),
  gd 82 false (some 85) (il 85 (tg 84) (mLoad1 (tg 84))),
  gd 82 false (some 86) (ip 86 (pIaddrS 1 (tg 83) (tg 85))),
  gd 82 false (some 87) (il 87 (tg 86) (mLoad1 (tg 86))),
  ip 88 (pPick (tg 82) (cv (.bool true)) (tg 87))]
@[simp] def oe4_11_ap := ops_rule (c := oe4_11) rfl
def oe4_12 : List IS := [ip 4 (pMov (cv (.bool false)))]
@[simp] def oe4_12_ap := ops_rule (c := oe4_12) rfl
def ce4_12 : SC := sSeq (sReg (seqI oe4_12)) sRet
@[simp] def ce4_12_ap := seq_rule (c := ce4_12) rfl
def ce4_13 : SC := sCond (tg 88) ce4_12 sSkip
@[simp] def ce4_13_ap := cond_rule (c := ce4_13) rfl
def ce4_14 : SC := sSeq (sReg (seqI oe4_11)) ce4_13
@[simp] def ce4_14_ap := seq_rule (c := ce4_14) rfl
def oe4_13 : List IS := [ip 89 (pMov (tg 5)),
  ip 90 (pFaddr 2 (tg 7)),
  il 91 (tg 90) (mLoad1 (tg 90)),
  ip 92 (pIaddrS 1 (tg 89) (tg 91)),
  im0 3 (mStore 1 (tg 92) (cv (.bool true)))]
@[simp] def oe4_13_ap := ops_rule (c := oe4_13) rfl
def oe4_14 : List IS := [ip 93 (pFaddr 0 (tg 7)),
  il 94 (tg 93) (mLoad1 (tg 93)),
  ip 95 (pBin .leq (tg 94) (cv (.int .i64 5)))]
@[simp] def oe4_14_ap := ops_rule (c := oe4_14) rfl
def oe4_15 : List IS := [ip 96 (pFaddr 3 (tg 7)),
  il 97 (tg 96) (mLoad1 (tg 96)),
  ip 98 (pBin .neq (tg 97) (cv (.int .i64 0)))]
@[simp] def oe4_15_ap := ops_rule (c := oe4_15) rfl
def oe4_16 : List IS := [ip 4 (pMov (cv (.bool false)))]
@[simp] def oe4_16_ap := ops_rule (c := oe4_16) rfl
def ce4_15 : SC := sSeq (sReg (seqI oe4_16)) sRet
@[simp] def ce4_15_ap := seq_rule (c := ce4_15) rfl
def ce4_16 : SC := sCond (tg 98) ce4_15 sSkip
@[simp] def ce4_16_ap := cond_rule (c := ce4_16) rfl
def ce4_17 : SC := sSeq (sReg (seqI oe4_15)) ce4_16
@[simp] def ce4_17_ap := seq_rule (c := ce4_17) rfl
def ce4_18 : SC := sSeq ce4_17 (sExit 1)
@[simp] def ce4_18_ap := seq_rule (c := ce4_18) rfl
def ce4_19 : SC := sCond (tg 95) ce4_18 sSkip
@[simp] def ce4_19_ap := cond_rule (c := ce4_19) rfl
def ce4_20 : SC := sSeq (sReg (seqI oe4_14)) ce4_19
@[simp] def ce4_20_ap := seq_rule (c := ce4_20) rfl
def oe4_17 : List IS := [ip 99 (pFaddr 3 (tg 7)),
  il 100 (tg 99) (mLoad1 (tg 99)),
  ip 101 (pBin .lss (tg 100) (cv (.int .i64 0))),
  ip 102 (pMov (tg 101)),
  gd 102 false (some 103) (ip 103 (pFaddr 3 (tg 7))),
  gd 102 false (some 104) (il 104 (tg 103) (mLoad1 (tg 103))),
  gd 102 false (some 105) (ip 105 (pMov (tg 6))),
  gd 102 false (some 106) (ip 106 (pBin .geq (tg 104) (tg 105))),
  ip 107 (pPick (tg 102) (cv (.bool true)) (tg 106)),
  ip 108 (pMov (tg 107)),
  gd 108 false (some 109) (ip 109 (pMov (tg 5))),
  gd 108 false (some 110) (ip 110 (pFaddr 3 (tg 7))),
  gd 108 false (some 111) (il 111 (tg 110) (mLoad1 (tg 110))),
  gd 108 false (some 112) (ip 112 (pIaddrS 1 (tg 109) (tg 111))),
  gd 108 false (some 113) (il 113 (tg 112) (mLoad1 (tg 112))),
  ip 114 (pPick (tg 108) (cv (.bool true)) (tg 113))]
@[simp] def oe4_17_ap := ops_rule (c := oe4_17) rfl
def oe4_18 : List IS := [ip 4 (pMov (cv (.bool false)))]
@[simp] def oe4_18_ap := ops_rule (c := oe4_18) rfl
def ce4_21 : SC := sSeq (sReg (seqI oe4_18)) sRet
@[simp] def ce4_21_ap := seq_rule (c := ce4_21) rfl
def ce4_22 : SC := sCond (tg 114) ce4_21 sSkip
@[simp] def ce4_22_ap := cond_rule (c := ce4_22) rfl
def ce4_23 : SC := sSeq (sReg (seqI oe4_17)) ce4_22
@[simp] def ce4_23_ap := seq_rule (c := ce4_23) rfl
def oe4_19 : List IS := [ip 115 (pMov (tg 5)),
  ip 116 (pFaddr 3 (tg 7)),
  il 117 (tg 116) (mLoad1 (tg 116)),
  ip 118 (pIaddrS 1 (tg 115) (tg 117)),
  im0 3 (mStore 1 (tg 118) (cv (.bool true)))]
@[simp] def oe4_19_ap := ops_rule (c := oe4_19) rfl
def ce4_24 : SC := sSeq ce4_23 (sReg (seqI oe4_19))
@[simp] def ce4_24_ap := seq_rule (c := ce4_24) rfl
def ce4_25 : SC := sSeq ce4_20 ce4_24
@[simp] def ce4_25_ap := seq_rule (c := ce4_25) rfl
def ce4_26 : SC := sSeq (sReg (seqI oe4_13)) ce4_25
@[simp] def ce4_26_ap := seq_rule (c := ce4_26) rfl
def ce4_27 : SC := sSeq ce4_14 ce4_26
@[simp] def ce4_27_ap := seq_rule (c := ce4_27) rfl
def ce4_28 : SC := sSeq ce4_11 ce4_27
@[simp] def ce4_28_ap := seq_rule (c := ce4_28) rfl
def ce4_29 : SC := sSeq (sReg (seqI oe4_7)) ce4_28
@[simp] def ce4_29_ap := seq_rule (c := ce4_29) rfl
def ce4_30 : SC := sBlock 1 ce4_29
@[simp] def ce4_30_ap := block_rule (c := ce4_30) rfl
def oe4_20 : List IS := [ip 24 (pMov (tg 6)),
  ip 25 (pBin .add (tg 24) (cv (.int .i64 1))),
  ip 6 (pMov (tg 25))]
@[simp] def oe4_20_ap := ops_rule (c := oe4_20) rfl
def ce4_31 : SC := sSeq ce4_30 (sReg (seqI oe4_20))
@[simp] def ce4_31_ap := seq_rule (c := ce4_31) rfl
def ce4_32 : SC := sSeq ce4_5 ce4_31
@[simp] def ce4_32_ap := seq_rule (c := ce4_32) rfl
def ce4_33 : SC := sLoop ce4_32
def ce4_34 : SC := sBlock 0 ce4_33
@[simp] def ce4_34_ap := block_rule (c := ce4_34) rfl
def ce4_35 : SC := sSeq (sReg (seqI oe4_5)) ce4_34
@[simp] def ce4_35_ap := seq_rule (c := ce4_35) rfl
def oe4_21 : List IS := [ip 8 (pMov (cv (.int .i64 0)))]
@[simp] def oe4_21_ap := ops_rule (c := oe4_21) rfl
def oe4_22 : List IS := [ip 119 (pMov (tg 8)),
  ip 120 (pMov (tg 0)),
  ip 121 (pLen (tg 120)),
  ip 122 (pBin .sub (tg 121) (cv (.int .i64 1))),
  ip 123 (pBin .lss (tg 119) (tg 122))]
@[simp] def oe4_22_ap := ops_rule (c := oe4_22) rfl
def ce4_36 : SC := sCond (tg 123) sSkip (sExit 2)
@[simp] def ce4_36_ap := cond_rule (c := ce4_36) rfl
def ce4_37 : SC := sSeq (sReg (seqI oe4_22)) ce4_36
@[simp] def ce4_37_ap := seq_rule (c := ce4_37) rfl
def oe4_23 : List IS := [ip 126 (pMov (tg 5)),
  ip 127 (pMov (tg 8)),
  ip 128 (pIaddrS 1 (tg 126) (tg 127)),
  il 129 (tg 128) (mLoad1 (tg 128)),
  ip 130 (pUn .not (tg 129))]
@[simp] def oe4_23_ap := ops_rule (c := oe4_23) rfl
def oe4_24 : List IS := [ip 4 (pMov (cv (.bool false)))]
@[simp] def oe4_24_ap := ops_rule (c := oe4_24) rfl
def ce4_38 : SC := sSeq (sReg (seqI oe4_24)) sRet
@[simp] def ce4_38_ap := seq_rule (c := ce4_38) rfl
def ce4_39 : SC := sCond (tg 130) ce4_38 sSkip
@[simp] def ce4_39_ap := cond_rule (c := ce4_39) rfl
def ce4_40 : SC := sSeq (sReg (seqI oe4_23)) ce4_39
@[simp] def ce4_40_ap := seq_rule (c := ce4_40) rfl
def ce4_41 : SC := sBlock 3 ce4_40
@[simp] def ce4_41_ap := block_rule (c := ce4_41) rfl
def oe4_25 : List IS := [ip 124 (pMov (tg 8)),
  ip 125 (pBin .add (tg 124) (cv (.int .i64 1))),
  ip 8 (pMov (tg 125))]
@[simp] def oe4_25_ap := ops_rule (c := oe4_25) rfl
def ce4_42 : SC := sSeq ce4_41 (sReg (seqI oe4_25))
@[simp] def ce4_42_ap := seq_rule (c := ce4_42) rfl
def ce4_43 : SC := sSeq ce4_37 ce4_42
@[simp] def ce4_43_ap := seq_rule (c := ce4_43) rfl
def ce4_44 : SC := sLoop ce4_43
def ce4_45 : SC := sBlock 2 ce4_44
@[simp] def ce4_45_ap := block_rule (c := ce4_45) rfl
def ce4_46 : SC := sSeq (sReg (seqI oe4_21)) ce4_45
@[simp] def ce4_46_ap := seq_rule (c := ce4_46) rfl
def oe4_26 : List IS := [ip 4 (pMov (cv (.bool true)))]
@[simp] def oe4_26_ap := ops_rule (c := oe4_26) rfl
def ce4_47 : SC := sSeq (sReg (seqI oe4_26)) sRet
@[simp] def ce4_47_ap := seq_rule (c := ce4_47) rfl
def ce4_48 : SC := sSeq ce4_46 ce4_47
@[simp] def ce4_48_ap := seq_rule (c := ce4_48) rfl
def ce4_49 : SC := sSeq ce4_35 ce4_48
@[simp] def ce4_49_ap := seq_rule (c := ce4_49) rfl
def ce4_50 : SC := sSeq (sReg (seqI oe4_4)) ce4_49
@[simp] def ce4_50_ap := seq_rule (c := ce4_50) rfl
def ce4_51 : SC := sSeq ce4_3 ce4_50
@[simp] def ce4_51_ap := seq_rule (c := ce4_51) rfl
def ce4_52 : SC := sSeq (sReg (seqI oe4_1)) ce4_51
@[simp] def ce4_52_ap := seq_rule (c := ce4_52) rfl
def de4 : DFn := ⟨ce4_52, 131, [.t 4]⟩
theorem de4_ok : fnOf Tryz.prog 59 = some de4 := by kernel_rfl
def oe5_1 : List IS := [ip 4 (pMov (cv (.int .u64 0)))]
@[simp] def oe5_1_ap := ops_rule (c := oe5_1) rfl
def oe5_2 : List IS := [ip 5 (pMov (tg 0))]
@[simp] def oe5_2_ap := ops_rule (c := oe5_2) rfl
def oe5_3 : List IS := [ip 7 (pBin .eql (tg 5) (cv (.int .i64 3))),
  ip 6 (pMov (tg 7))]
@[simp] def oe5_3_ap := ops_rule (c := oe5_3) rfl
def oe5_4 : List IS := [ip 8 (pMov (tg 1)),
  ip 9 (pUn .neg (tg 8)),
  ip 4 (pMov (tg 9))]
@[simp] def oe5_4_ap := ops_rule (c := oe5_4) rfl
def ce5_1 : SC := sSeq (sReg (seqI oe5_4)) sRet
@[simp] def ce5_1_ap := seq_rule (c := ce5_1) rfl
def oe5_5 : List IS := [ip 11 (pBin .eql (tg 5) (cv (.int .i64 4))),
  ip 10 (pMov (tg 11))]
@[simp] def oe5_5_ap := ops_rule (c := oe5_5) rfl
def oe5_6 : List IS := [ip 12 (pMov (tg 1)),
  ip 13 (pUn .xor (tg 12)),
  ip 4 (pMov (tg 13))]
@[simp] def oe5_6_ap := ops_rule (c := oe5_6) rfl
def ce5_2 : SC := sSeq (sReg (seqI oe5_6)) sRet
@[simp] def ce5_2_ap := seq_rule (c := ce5_2) rfl
def ce5_3 : SC := sCond (tg 10) ce5_2 sSkip
@[simp] def ce5_3_ap := cond_rule (c := ce5_3) rfl
def ce5_4 : SC := sSeq (sReg (seqI oe5_5)) ce5_3
@[simp] def ce5_4_ap := seq_rule (c := ce5_4) rfl
def ce5_5 : SC := sCond (tg 6) ce5_1 ce5_4
@[simp] def ce5_5_ap := cond_rule (c := ce5_5) rfl
def ce5_6 : SC := sSeq (sReg (seqI oe5_3)) ce5_5
@[simp] def ce5_6_ap := seq_rule (c := ce5_6) rfl
def ce5_7 : SC := sBlock 0 ce5_6
@[simp] def ce5_7_ap := block_rule (c := ce5_7) rfl
def ce5_8 : SC := sSeq (sReg (seqI oe5_2)) ce5_7
@[simp] def ce5_8_ap := seq_rule (c := ce5_8) rfl
def oe5_7 : List IS := [ip 14 (pMov (tg 1)),
  ip 15 (pBin .eql (tg 14) (cv (.int .u64 0))),
  im 3 16 (mCall 72 [(tg 15)]),
  ip 4 (pMov (tg 16))]
@[simp] def oe5_7_ap := ops_rule (c := oe5_7) rfl
def ce5_9 : SC := sSeq (sReg (seqI oe5_7)) sRet
@[simp] def ce5_9_ap := seq_rule (c := ce5_9) rfl
def ce5_10 : SC := sSeq ce5_8 ce5_9
@[simp] def ce5_10_ap := seq_rule (c := ce5_10) rfl
def ce5_11 : SC := sSeq (sReg (seqI oe5_1)) ce5_10
@[simp] def ce5_11_ap := seq_rule (c := ce5_11) rfl
def de5 : DFn := ⟨ce5_11, 17, [.t 4]⟩
theorem de5_ok : fnOf Tryz.prog 60 = some de5 := by kernel_rfl
def oe6_1 : List IS := [ip 6 (pMov (cv (.int .u64 0)))]
@[simp] def oe6_1_ap := ops_rule (c := oe6_1) rfl
def oe6_2 : List IS := [ip 7 (pMov (tg 0))]
@[simp] def oe6_2_ap := ops_rule (c := oe6_2) rfl
def oe6_3 : List IS := [ip 9 (pBin .eql (tg 7) (cv (.int .i64 6))),
  ip 8 (pMov (tg 9))]
@[simp] def oe6_3_ap := ops_rule (c := oe6_3) rfl
def oe6_4 : List IS := [ip 10 (pMov (tg 1)),
  ip 11 (pMov (tg 2)),
  ip 12 (pBin .mul (tg 10) (tg 11)),
  ip 6 (pMov (tg 12))]
@[simp] def oe6_4_ap := ops_rule (c := oe6_4) rfl
def ce6_1 : SC := sSeq (sReg (seqI oe6_4)) sRet
@[simp] def ce6_1_ap := seq_rule (c := ce6_1) rfl
def oe6_5 : List IS := [ip 14 (pBin .eql (tg 7) (cv (.int .i64 7))),
  ip 13 (pMov (tg 14))]
@[simp] def oe6_5_ap := ops_rule (c := oe6_5) rfl
def oe6_6 : List IS := [ip 15 (pMov (tg 1)),
  ip 16 (pMov (tg 2)),
  ip 17 (pBin .add (tg 15) (tg 16)),
  ip 6 (pMov (tg 17))]
@[simp] def oe6_6_ap := ops_rule (c := oe6_6) rfl
def ce6_2 : SC := sSeq (sReg (seqI oe6_6)) sRet
@[simp] def ce6_2_ap := seq_rule (c := ce6_2) rfl
def oe6_7 : List IS := [ip 19 (pBin .eql (tg 7) (cv (.int .i64 8))),
  ip 18 (pMov (tg 19))]
@[simp] def oe6_7_ap := ops_rule (c := oe6_7) rfl
def oe6_8 : List IS := [ip 20 (pMov (tg 1)),
  ip 21 (pMov (tg 2)),
  ip 22 (pBin .sub (tg 20) (tg 21)),
  ip 6 (pMov (tg 22))]
@[simp] def oe6_8_ap := ops_rule (c := oe6_8) rfl
def ce6_3 : SC := sSeq (sReg (seqI oe6_8)) sRet
@[simp] def ce6_3_ap := seq_rule (c := ce6_3) rfl
def oe6_9 : List IS := [ip 24 (pBin .eql (tg 7) (cv (.int .i64 9))),
  ip 23 (pMov (tg 24))]
@[simp] def oe6_9_ap := ops_rule (c := oe6_9) rfl
def oe6_10 : List IS := [ip 25 (pMov (tg 1)),
  ip 26 (pMov (tg 2)),
  ip 27 (pBin .and (tg 26) (cv (.int .u64 63))),
  ip 28 (pShift .shl (tg 25) (tg 27)),
  ip 6 (pMov (tg 28))]
@[simp] def oe6_10_ap := ops_rule (c := oe6_10) rfl
def ce6_4 : SC := sSeq (sReg (seqI oe6_10)) sRet
@[simp] def ce6_4_ap := seq_rule (c := ce6_4) rfl
def oe6_11 : List IS := [ip 30 (pBin .eql (tg 7) (cv (.int .i64 10))),
  ip 29 (pMov (tg 30))]
@[simp] def oe6_11_ap := ops_rule (c := oe6_11) rfl
def oe6_12 : List IS := [ip 31 (pMov (tg 1)),
  ip 32 (pMov (tg 2)),
  ip 33 (pBin .and (tg 32) (cv (.int .u64 63))),
  ip 34 (pShift .shr (tg 31) (tg 33)),
  ip 6 (pMov (tg 34))]
@[simp] def oe6_12_ap := ops_rule (c := oe6_12) rfl
def ce6_5 : SC := sSeq (sReg (seqI oe6_12)) sRet
@[simp] def ce6_5_ap := seq_rule (c := ce6_5) rfl
def oe6_13 : List IS := [ip 36 (pBin .eql (tg 7) (cv (.int .i64 11))),
  ip 35 (pMov (tg 36))]
@[simp] def oe6_13_ap := ops_rule (c := oe6_13) rfl
def oe6_14 : List IS := [ip 37 (pMov (tg 1)),
  ip 38 (pMov (tg 2)),
  ip 39 (pBin .and (tg 37) (tg 38)),
  ip 6 (pMov (tg 39))]
@[simp] def oe6_14_ap := ops_rule (c := oe6_14) rfl
def ce6_6 : SC := sSeq (sReg (seqI oe6_14)) sRet
@[simp] def ce6_6_ap := seq_rule (c := ce6_6) rfl
def oe6_15 : List IS := [ip 41 (pBin .eql (tg 7) (cv (.int .i64 12))),
  ip 40 (pMov (tg 41))]
@[simp] def oe6_15_ap := ops_rule (c := oe6_15) rfl
def oe6_16 : List IS := [ip 42 (pMov (tg 1)),
  ip 43 (pMov (tg 2)),
  ip 44 (pBin .xor (tg 42) (tg 43)),
  ip 6 (pMov (tg 44))]
@[simp] def oe6_16_ap := ops_rule (c := oe6_16) rfl
def ce6_7 : SC := sSeq (sReg (seqI oe6_16)) sRet
@[simp] def ce6_7_ap := seq_rule (c := ce6_7) rfl
def oe6_17 : List IS := [ip 46 (pBin .eql (tg 7) (cv (.int .i64 13))),
  ip 45 (pMov (tg 46))]
@[simp] def oe6_17_ap := ops_rule (c := oe6_17) rfl
def oe6_18 : List IS := [ip 47 (pMov (tg 1)),
  ip 48 (pMov (tg 2)),
  ip 49 (pBin .or (tg 47) (tg 48)),
  ip 6 (pMov (tg 49))]
@[simp] def oe6_18_ap := ops_rule (c := oe6_18) rfl
def ce6_8 : SC := sSeq (sReg (seqI oe6_18)) sRet
@[simp] def ce6_8_ap := seq_rule (c := ce6_8) rfl
def oe6_19 : List IS := [ip 51 (pBin .eql (tg 7) (cv (.int .i64 14))),
  ip 50 (pMov (tg 51))]
@[simp] def oe6_19_ap := ops_rule (c := oe6_19) rfl
def oe6_20 : List IS := [ip 52 (pMov (tg 1)),
  ip 53 (pMov (tg 2)),
  ip 54 (pBin .eql (tg 52) (tg 53)),
  im 3 55 (mCall 72 [(tg 54)]),
  ip 6 (pMov (tg 55))]
@[simp] def oe6_20_ap := ops_rule (c := oe6_20) rfl
def ce6_9 : SC := sSeq (sReg (seqI oe6_20)) sRet
@[simp] def ce6_9_ap := seq_rule (c := ce6_9) rfl
def oe6_21 : List IS := [ip 57 (pBin .eql (tg 7) (cv (.int .i64 15))),
  ip 56 (pMov (tg 57))]
@[simp] def oe6_21_ap := ops_rule (c := oe6_21) rfl
def oe6_22 : List IS := [ip 58 (pMov (tg 1)),
  ip 59 (pMov (tg 2)),
  ip 60 (pBin .neq (tg 58) (tg 59)),
  im 3 61 (mCall 72 [(tg 60)]),
  ip 6 (pMov (tg 61))]
@[simp] def oe6_22_ap := ops_rule (c := oe6_22) rfl
def ce6_10 : SC := sSeq (sReg (seqI oe6_22)) sRet
@[simp] def ce6_10_ap := seq_rule (c := ce6_10) rfl
def oe6_23 : List IS := [ip 63 (pBin .eql (tg 7) (cv (.int .i64 16))),
  ip 62 (pMov (tg 63))]
@[simp] def oe6_23_ap := ops_rule (c := oe6_23) rfl
def oe6_24 : List IS := [ip 64 (pMov (tg 1)),
  ip 65 (pMov (tg 2)),
  ip 66 (pBin .lss (tg 64) (tg 65)),
  im 3 67 (mCall 72 [(tg 66)]),
  ip 6 (pMov (tg 67))]
@[simp] def oe6_24_ap := ops_rule (c := oe6_24) rfl
def ce6_11 : SC := sSeq (sReg (seqI oe6_24)) sRet
@[simp] def ce6_11_ap := seq_rule (c := ce6_11) rfl
def oe6_25 : List IS := [ip 69 (pBin .eql (tg 7) (cv (.int .i64 17))),
  ip 68 (pMov (tg 69))]
@[simp] def oe6_25_ap := ops_rule (c := oe6_25) rfl
def oe6_26 : List IS := [ip 70 (pMov (tg 1)),
  ip 71 (pMov (tg 2)),
  ip 72 (pBin .leq (tg 70) (tg 71)),
  im 3 73 (mCall 72 [(tg 72)]),
  ip 6 (pMov (tg 73))]
@[simp] def oe6_26_ap := ops_rule (c := oe6_26) rfl
def ce6_12 : SC := sSeq (sReg (seqI oe6_26)) sRet
@[simp] def ce6_12_ap := seq_rule (c := ce6_12) rfl
def oe6_27 : List IS := [ip 75 (pBin .eql (tg 7) (cv (.int .i64 18))),
  ip 74 (pMov (tg 75))]
@[simp] def oe6_27_ap := ops_rule (c := oe6_27) rfl
def oe6_28 : List IS := [ip 76 (pMov (tg 1)),
  ip 77 (pMov (tg 2)),
  ip 78 (pBin .gtr (tg 76) (tg 77)),
  im 3 79 (mCall 72 [(tg 78)]),
  ip 6 (pMov (tg 79))]
@[simp] def oe6_28_ap := ops_rule (c := oe6_28) rfl
def ce6_13 : SC := sSeq (sReg (seqI oe6_28)) sRet
@[simp] def ce6_13_ap := seq_rule (c := ce6_13) rfl
def ce6_14 : SC := sCond (tg 74) ce6_13 sSkip
@[simp] def ce6_14_ap := cond_rule (c := ce6_14) rfl
def ce6_15 : SC := sSeq (sReg (seqI oe6_27)) ce6_14
@[simp] def ce6_15_ap := seq_rule (c := ce6_15) rfl
def ce6_16 : SC := sCond (tg 68) ce6_12 ce6_15
@[simp] def ce6_16_ap := cond_rule (c := ce6_16) rfl
def ce6_17 : SC := sSeq (sReg (seqI oe6_25)) ce6_16
@[simp] def ce6_17_ap := seq_rule (c := ce6_17) rfl
def ce6_18 : SC := sCond (tg 62) ce6_11 ce6_17
@[simp] def ce6_18_ap := cond_rule (c := ce6_18) rfl
def ce6_19 : SC := sSeq (sReg (seqI oe6_23)) ce6_18
@[simp] def ce6_19_ap := seq_rule (c := ce6_19) rfl
def ce6_20 : SC := sCond (tg 56) ce6_10 ce6_19
@[simp] def ce6_20_ap := cond_rule (c := ce6_20) rfl
def ce6_21 : SC := sSeq (sReg (seqI oe6_21)) ce6_20
@[simp] def ce6_21_ap := seq_rule (c := ce6_21) rfl
def ce6_22 : SC := sCond (tg 50) ce6_9 ce6_21
@[simp] def ce6_22_ap := cond_rule (c := ce6_22) rfl
def ce6_23 : SC := sSeq (sReg (seqI oe6_19)) ce6_22
@[simp] def ce6_23_ap := seq_rule (c := ce6_23) rfl
def ce6_24 : SC := sCond (tg 45) ce6_8 ce6_23
@[simp] def ce6_24_ap := cond_rule (c := ce6_24) rfl
def ce6_25 : SC := sSeq (sReg (seqI oe6_17)) ce6_24
@[simp] def ce6_25_ap := seq_rule (c := ce6_25) rfl
def ce6_26 : SC := sCond (tg 40) ce6_7 ce6_25
@[simp] def ce6_26_ap := cond_rule (c := ce6_26) rfl
def ce6_27 : SC := sSeq (sReg (seqI oe6_15)) ce6_26
@[simp] def ce6_27_ap := seq_rule (c := ce6_27) rfl
def ce6_28 : SC := sCond (tg 35) ce6_6 ce6_27
@[simp] def ce6_28_ap := cond_rule (c := ce6_28) rfl
def ce6_29 : SC := sSeq (sReg (seqI oe6_13)) ce6_28
@[simp] def ce6_29_ap := seq_rule (c := ce6_29) rfl
def ce6_30 : SC := sCond (tg 29) ce6_5 ce6_29
@[simp] def ce6_30_ap := cond_rule (c := ce6_30) rfl
def ce6_31 : SC := sSeq (sReg (seqI oe6_11)) ce6_30
@[simp] def ce6_31_ap := seq_rule (c := ce6_31) rfl
def ce6_32 : SC := sCond (tg 23) ce6_4 ce6_31
@[simp] def ce6_32_ap := cond_rule (c := ce6_32) rfl
def ce6_33 : SC := sSeq (sReg (seqI oe6_9)) ce6_32
@[simp] def ce6_33_ap := seq_rule (c := ce6_33) rfl
def ce6_34 : SC := sCond (tg 18) ce6_3 ce6_33
@[simp] def ce6_34_ap := cond_rule (c := ce6_34) rfl
def ce6_35 : SC := sSeq (sReg (seqI oe6_7)) ce6_34
@[simp] def ce6_35_ap := seq_rule (c := ce6_35) rfl
def ce6_36 : SC := sCond (tg 13) ce6_2 ce6_35
@[simp] def ce6_36_ap := cond_rule (c := ce6_36) rfl
def ce6_37 : SC := sSeq (sReg (seqI oe6_5)) ce6_36
@[simp] def ce6_37_ap := seq_rule (c := ce6_37) rfl
def ce6_38 : SC := sCond (tg 8) ce6_1 ce6_37
@[simp] def ce6_38_ap := cond_rule (c := ce6_38) rfl
def ce6_39 : SC := sSeq (sReg (seqI oe6_3)) ce6_38
@[simp] def ce6_39_ap := seq_rule (c := ce6_39) rfl
def ce6_40 : SC := sBlock 0 ce6_39
@[simp] def ce6_40_ap := block_rule (c := ce6_40) rfl
def ce6_41 : SC := sSeq (sReg (seqI oe6_2)) ce6_40
@[simp] def ce6_41_ap := seq_rule (c := ce6_41) rfl
def oe6_29 : List IS := [ip 80 (pMov (tg 1)),
  ip 81 (pMov (tg 2)),
  ip 82 (pBin .geq (tg 80) (tg 81)),
  im 3 83 (mCall 72 [(tg 82)]),
  ip 6 (pMov (tg 83))]
@[simp] def oe6_29_ap := ops_rule (c := oe6_29) rfl
def ce6_42 : SC := sSeq (sReg (seqI oe6_29)) sRet
@[simp] def ce6_42_ap := seq_rule (c := ce6_42) rfl
def ce6_43 : SC := sSeq ce6_41 ce6_42
@[simp] def ce6_43_ap := seq_rule (c := ce6_43) rfl
def ce6_44 : SC := sSeq (sReg (seqI oe6_1)) ce6_43
@[simp] def ce6_44_ap := seq_rule (c := ce6_44) rfl
def de6 : DFn := ⟨ce6_44, 84, [.t 6]⟩
theorem de6_ok : fnOf Tryz.prog 61 = some de6 := by kernel_rfl
def oe7_1 : List IS := [ip 6 (pMov (cv (.int .u64 0)))]
@[simp] def oe7_1_ap := ops_rule (c := oe7_1) rfl
def oe7_2 : List IS := [ip 12 (pMov (tg 0)),
  ip 13 (pMov (tg 1)),
  ip 14 (pIaddrS 4 (tg 12) (tg 13)),
  il 15 (tg 14) (mLoadN 4 (tg 14)),
  im 1 7 (mAlloc [(.int .i64 0), (.int .u64 0), (.int .i64 0), (.int .i64 0)]),
  im0 3 (mStore 4 (tg 7) (tg 15))]
@[simp] def oe7_2_ap := ops_rule (c := oe7_2) rfl
def oe7_3 : List IS := [ip 16 (pFaddr 0 (tg 7)),
  il 17 (tg 16) (mLoad1 (tg 16)),
  ip 18 (pBin .eql (tg 17) (cv (.int .i64 1)))]
@[simp] def oe7_3_ap := ops_rule (c := oe7_3) rfl
def oe7_4 : List IS := [ip 19 (pFaddr 1 (tg 7)),
  il 20 (tg 19) (mLoad1 (tg 19)),
  ip 6 (pMov (tg 20))]
@[simp] def oe7_4_ap := ops_rule (c := oe7_4) rfl
def ce7_1 : SC := sSeq (sReg (seqI oe7_4)) sRet
@[simp] def ce7_1_ap := seq_rule (c := ce7_1) rfl
def ce7_2 : SC := sCond (tg 18) ce7_1 sSkip
@[simp] def ce7_2_ap := cond_rule (c := ce7_2) rfl
def ce7_3 : SC := sSeq (sReg (seqI oe7_3)) ce7_2
@[simp] def ce7_3_ap := seq_rule (c := ce7_3) rfl
def oe7_5 : List IS := [ip 21 (pFaddr 0 (tg 7)),
  il 22 (tg 21) (mLoad1 (tg 21)),
  ip 23 (pBin .eql (tg 22) (cv (.int .i64 2)))]
@[simp] def oe7_5_ap := ops_rule (c := oe7_5) rfl
def oe7_6 : List IS := [ip 24 (pMov (tg 2)),
  ip 25 (pFaddr 1 (tg 7)),
  il 26 (tg 25) (mLoad1 (tg 25)),
  ip 27 (pIaddrS 1 (tg 24) (tg 26)),
  il 28 (tg 27) (mLoad1 (tg 27)),
  ip 6 (pMov (tg 28))]
@[simp] def oe7_6_ap := ops_rule (c := oe7_6) rfl
def ce7_4 : SC := sSeq (sReg (seqI oe7_6)) sRet
@[simp] def ce7_4_ap := seq_rule (c := ce7_4) rfl
def ce7_5 : SC := sCond (tg 23) ce7_4 sSkip
@[simp] def ce7_5_ap := cond_rule (c := ce7_5) rfl
def ce7_6 : SC := sSeq (sReg (seqI oe7_5)) ce7_5
@[simp] def ce7_6_ap := seq_rule (c := ce7_6) rfl
def oe7_7 : List IS := [ip 29 (pMov (tg 0)),
  ip 30 (pFaddr 2 (tg 7)),
  il 31 (tg 30) (mLoad1 (tg 30)),
  ip 32 (pMov (tg 2)),
  im 3 33 (mCall 62 [(tg 29), (tg 31), (tg 32)]),
  ip 8 (pMov (tg 33))]
@[simp] def oe7_7_ap := ops_rule (c := oe7_7) rfl
def oe7_8 : List IS := [ip 34 (pFaddr 0 (tg 7)),
  il 35 (tg 34) (mLoad1 (tg 34))]
@[simp] def oe7_8_ap := ops_rule (c := oe7_8) rfl
def oe7_9 : List IS := [ip 37 (pBin .eql (tg 35) (cv (.int .i64 3))),
  ip 36 (pMov (tg 37))]
@[simp] def oe7_9_ap := ops_rule (c := oe7_9) rfl
def oe7_10 : List IS := [ip 38 (pMov (tg 8)),
  ip 39 (pBin .sub (cv (.int .u64 0)) (tg 38)),
  ip 6 (pMov (tg 39))]
@[simp] def oe7_10_ap := ops_rule (c := oe7_10) rfl
def ce7_7 : SC := sSeq (sReg (seqI oe7_10)) sRet
@[simp] def ce7_7_ap := seq_rule (c := ce7_7) rfl
def oe7_11 : List IS := [ip 41 (pBin .eql (tg 35) (cv (.int .i64 4))),
  ip 40 (pMov (tg 41))]
@[simp] def oe7_11_ap := ops_rule (c := oe7_11) rfl
def oe7_12 : List IS := [ip 42 (pMov (tg 8)),
  ip 43 (pBin .sub (cv (.int .u64 18446744073709551615)) (tg 42)),
  ip 6 (pMov (tg 43))]
@[simp] def oe7_12_ap := ops_rule (c := oe7_12) rfl
def ce7_8 : SC := sSeq (sReg (seqI oe7_12)) sRet
@[simp] def ce7_8_ap := seq_rule (c := ce7_8) rfl
def oe7_13 : List IS := [ip 45 (pBin .eql (tg 35) (cv (.int .i64 5))),
  ip 44 (pMov (tg 45))]
@[simp] def oe7_13_ap := ops_rule (c := oe7_13) rfl
def oe7_14 : List IS := [ip 46 (pMov (tg 8)),
  ip 47 (pBin .eql (tg 46) (cv (.int .u64 0))),
  im 3 48 (mCall 73 [(tg 47)]),
  ip 6 (pMov (tg 48))]
@[simp] def oe7_14_ap := ops_rule (c := oe7_14) rfl
def ce7_9 : SC := sSeq (sReg (seqI oe7_14)) sRet
@[simp] def ce7_9_ap := seq_rule (c := ce7_9) rfl
def ce7_10 : SC := sCond (tg 44) ce7_9 sSkip
@[simp] def ce7_10_ap := cond_rule (c := ce7_10) rfl
def ce7_11 : SC := sSeq (sReg (seqI oe7_13)) ce7_10
@[simp] def ce7_11_ap := seq_rule (c := ce7_11) rfl
def ce7_12 : SC := sCond (tg 40) ce7_8 ce7_11
@[simp] def ce7_12_ap := cond_rule (c := ce7_12) rfl
def ce7_13 : SC := sSeq (sReg (seqI oe7_11)) ce7_12
@[simp] def ce7_13_ap := seq_rule (c := ce7_13) rfl
def ce7_14 : SC := sCond (tg 36) ce7_7 ce7_13
@[simp] def ce7_14_ap := cond_rule (c := ce7_14) rfl
def ce7_15 : SC := sSeq (sReg (seqI oe7_9)) ce7_14
@[simp] def ce7_15_ap := seq_rule (c := ce7_15) rfl
def ce7_16 : SC := sBlock 0 ce7_15
@[simp] def ce7_16_ap := block_rule (c := ce7_16) rfl
def ce7_17 : SC := sSeq (sReg (seqI oe7_8)) ce7_16
@[simp] def ce7_17_ap := seq_rule (c := ce7_17) rfl
def oe7_15 : List IS := [ip 49 (pMov (tg 0)),
  ip 50 (pFaddr 3 (tg 7)),
  il 51 (tg 50) (mLoad1 (tg 50)),
  ip 52 (pMov (tg 2)),
  im 3 53 (mCall 62 [(tg 49), (tg 51), (tg 52)]),
  ip 9 (pMov (tg 53))]
@[simp] def oe7_15_ap := ops_rule (c := oe7_15) rfl
def oe7_16 : List IS := [ip 54 (pFaddr 0 (tg 7)),
  il 55 (tg 54) (mLoad1 (tg 54))]
@[simp] def oe7_16_ap := ops_rule (c := oe7_16) rfl
def oe7_17 : List IS := [ip 57 (pBin .eql (tg 55) (cv (.int .i64 6))),
  ip 56 (pMov (tg 57))]
@[simp] def oe7_17_ap := ops_rule (c := oe7_17) rfl
def oe7_18 : List IS := [ip 58 (pMov (tg 8)),
  ip 59 (pMov (tg 9)),
  ip 60 (pBin .mul (tg 58) (tg 59)),
  ip 6 (pMov (tg 60))]
@[simp] def oe7_18_ap := ops_rule (c := oe7_18) rfl
def ce7_18 : SC := sSeq (sReg (seqI oe7_18)) sRet
@[simp] def ce7_18_ap := seq_rule (c := ce7_18) rfl
def oe7_19 : List IS := [ip 62 (pBin .eql (tg 55) (cv (.int .i64 7))),
  ip 61 (pMov (tg 62))]
@[simp] def oe7_19_ap := ops_rule (c := oe7_19) rfl
def oe7_20 : List IS := [ip 63 (pMov (tg 8)),
  ip 64 (pMov (tg 9)),
  ip 65 (pBin .add (tg 63) (tg 64)),
  ip 6 (pMov (tg 65))]
@[simp] def oe7_20_ap := ops_rule (c := oe7_20) rfl
def ce7_19 : SC := sSeq (sReg (seqI oe7_20)) sRet
@[simp] def ce7_19_ap := seq_rule (c := ce7_19) rfl
def oe7_21 : List IS := [ip 67 (pBin .eql (tg 55) (cv (.int .i64 8))),
  ip 66 (pMov (tg 67))]
@[simp] def oe7_21_ap := ops_rule (c := oe7_21) rfl
def oe7_22 : List IS := [ip 68 (pMov (tg 8)),
  ip 69 (pMov (tg 9)),
  ip 70 (pBin .sub (tg 68) (tg 69)),
  ip 6 (pMov (tg 70))]
@[simp] def oe7_22_ap := ops_rule (c := oe7_22) rfl
def ce7_20 : SC := sSeq (sReg (seqI oe7_22)) sRet
@[simp] def ce7_20_ap := seq_rule (c := ce7_20) rfl
def oe7_23 : List IS := [ip 72 (pBin .eql (tg 55) (cv (.int .i64 9))),
  ip 71 (pMov (tg 72))]
@[simp] def oe7_23_ap := ops_rule (c := oe7_23) rfl
def oe7_24 : List IS := [ip 10 (pMov (cv (.int .u64 0)))]
@[simp] def oe7_24_ap := ops_rule (c := oe7_24) rfl
def oe7_25 : List IS := [ip 73 (pMov (tg 10)),
  ip 74 (pMov (tg 9)),
  ip 75 (pBin .rem (tg 74) (cv (.int .u64 64))),
  ip 76 (pBin .lss (tg 73) (tg 75))]
@[simp] def oe7_25_ap := ops_rule (c := oe7_25) rfl
def ce7_21 : SC := sCond (tg 76) sSkip (sExit 2)
@[simp] def ce7_21_ap := cond_rule (c := ce7_21) rfl
def ce7_22 : SC := sSeq (sReg (seqI oe7_25)) ce7_21
@[simp] def ce7_22_ap := seq_rule (c := ce7_22) rfl
def oe7_26 : List IS := [ip 79 (pMov (tg 8)),
  ip 80 (pMov (tg 8)),
  ip 81 (pBin .add (tg 79) (tg 80)),
  ip 8 (pMov (tg 81))]
@[simp] def oe7_26_ap := ops_rule (c := oe7_26) rfl
def ce7_23 : SC := sBlock 3 (sReg (seqI oe7_26))
@[simp] def ce7_23_ap := block_rule (c := ce7_23) rfl
def oe7_27 : List IS := [ip 77 (pMov (tg 10)),
  ip 78 (pBin .add (tg 77) (cv (.int .u64 1))),
  ip 10 (pMov (tg 78))]
@[simp] def oe7_27_ap := ops_rule (c := oe7_27) rfl
def ce7_24 : SC := sSeq ce7_23 (sReg (seqI oe7_27))
@[simp] def ce7_24_ap := seq_rule (c := ce7_24) rfl
def ce7_25 : SC := sSeq ce7_22 ce7_24
@[simp] def ce7_25_ap := seq_rule (c := ce7_25) rfl
def ce7_26 : SC := sLoop ce7_25
def ce7_27 : SC := sBlock 2 ce7_26
@[simp] def ce7_27_ap := block_rule (c := ce7_27) rfl
def ce7_28 : SC := sSeq (sReg (seqI oe7_24)) ce7_27
@[simp] def ce7_28_ap := seq_rule (c := ce7_28) rfl
def oe7_28 : List IS := [ip 82 (pMov (tg 8)),
  ip 6 (pMov (tg 82))]
@[simp] def oe7_28_ap := ops_rule (c := oe7_28) rfl
def ce7_29 : SC := sSeq (sReg (seqI oe7_28)) sRet
@[simp] def ce7_29_ap := seq_rule (c := ce7_29) rfl
def ce7_30 : SC := sSeq ce7_28 ce7_29
@[simp] def ce7_30_ap := seq_rule (c := ce7_30) rfl
def oe7_29 : List IS := [ip 84 (pBin .eql (tg 55) (cv (.int .i64 10))),
  ip 83 (pMov (tg 84))]
@[simp] def oe7_29_ap := ops_rule (c := oe7_29) rfl
def oe7_30 : List IS := [ip 11 (pMov (cv (.int .u64 0)))]
@[simp] def oe7_30_ap := ops_rule (c := oe7_30) rfl
def oe7_31 : List IS := [ip 85 (pMov (tg 11)),
  ip 86 (pMov (tg 9)),
  ip 87 (pBin .rem (tg 86) (cv (.int .u64 64))),
  ip 88 (pBin .lss (tg 85) (tg 87))]
@[simp] def oe7_31_ap := ops_rule (c := oe7_31) rfl
def ce7_31 : SC := sCond (tg 88) sSkip (sExit 4)
@[simp] def ce7_31_ap := cond_rule (c := ce7_31) rfl
def ce7_32 : SC := sSeq (sReg (seqI oe7_31)) ce7_31
@[simp] def ce7_32_ap := seq_rule (c := ce7_32) rfl
def oe7_32 : List IS := [ip 91 (pMov (tg 8)),
  ip 92 (pBin .quo (tg 91) (cv (.int .u64 2))),
  ip 8 (pMov (tg 92))]
@[simp] def oe7_32_ap := ops_rule (c := oe7_32) rfl
def ce7_33 : SC := sBlock 5 (sReg (seqI oe7_32))
@[simp] def ce7_33_ap := block_rule (c := ce7_33) rfl
def oe7_33 : List IS := [ip 89 (pMov (tg 11)),
  ip 90 (pBin .add (tg 89) (cv (.int .u64 1))),
  ip 11 (pMov (tg 90))]
@[simp] def oe7_33_ap := ops_rule (c := oe7_33) rfl
def ce7_34 : SC := sSeq ce7_33 (sReg (seqI oe7_33))
@[simp] def ce7_34_ap := seq_rule (c := ce7_34) rfl
def ce7_35 : SC := sSeq ce7_32 ce7_34
@[simp] def ce7_35_ap := seq_rule (c := ce7_35) rfl
def ce7_36 : SC := sLoop ce7_35
def ce7_37 : SC := sBlock 4 ce7_36
@[simp] def ce7_37_ap := block_rule (c := ce7_37) rfl
def ce7_38 : SC := sSeq (sReg (seqI oe7_30)) ce7_37
@[simp] def ce7_38_ap := seq_rule (c := ce7_38) rfl
def oe7_34 : List IS := [ip 93 (pMov (tg 8)),
  ip 6 (pMov (tg 93))]
@[simp] def oe7_34_ap := ops_rule (c := oe7_34) rfl
def ce7_39 : SC := sSeq (sReg (seqI oe7_34)) sRet
@[simp] def ce7_39_ap := seq_rule (c := ce7_39) rfl
def ce7_40 : SC := sSeq ce7_38 ce7_39
@[simp] def ce7_40_ap := seq_rule (c := ce7_40) rfl
def oe7_35 : List IS := [ip 95 (pBin .eql (tg 55) (cv (.int .i64 11))),
  ip 94 (pMov (tg 95))]
@[simp] def oe7_35_ap := ops_rule (c := oe7_35) rfl
def oe7_36 : List IS := [ip 96 (pMov (tg 8)),
  ip 97 (pMov (tg 9)),
  ip 98 (pBin .and (tg 96) (tg 97)),
  ip 6 (pMov (tg 98))]
@[simp] def oe7_36_ap := ops_rule (c := oe7_36) rfl
def ce7_41 : SC := sSeq (sReg (seqI oe7_36)) sRet
@[simp] def ce7_41_ap := seq_rule (c := ce7_41) rfl
def oe7_37 : List IS := [ip 100 (pBin .eql (tg 55) (cv (.int .i64 12))),
  ip 99 (pMov (tg 100))]
@[simp] def oe7_37_ap := ops_rule (c := oe7_37) rfl
def oe7_38 : List IS := [ip 101 (pMov (tg 8)),
  ip 102 (pMov (tg 9)),
  ip 103 (pBin .xor (tg 101) (tg 102)),
  ip 6 (pMov (tg 103))]
@[simp] def oe7_38_ap := ops_rule (c := oe7_38) rfl
def ce7_42 : SC := sSeq (sReg (seqI oe7_38)) sRet
@[simp] def ce7_42_ap := seq_rule (c := ce7_42) rfl
def oe7_39 : List IS := [ip 105 (pBin .eql (tg 55) (cv (.int .i64 13))),
  ip 104 (pMov (tg 105))]
@[simp] def oe7_39_ap := ops_rule (c := oe7_39) rfl
def oe7_40 : List IS := [ip 106 (pMov (tg 8)),
  ip 107 (pMov (tg 9)),
  ip 108 (pBin .or (tg 106) (tg 107)),
  ip 6 (pMov (tg 108))]
@[simp] def oe7_40_ap := ops_rule (c := oe7_40) rfl
def ce7_43 : SC := sSeq (sReg (seqI oe7_40)) sRet
@[simp] def ce7_43_ap := seq_rule (c := ce7_43) rfl
def oe7_41 : List IS := [ip 110 (pBin .eql (tg 55) (cv (.int .i64 14))),
  ip 109 (pMov (tg 110))]
@[simp] def oe7_41_ap := ops_rule (c := oe7_41) rfl
def oe7_42 : List IS := [ip 111 (pMov (tg 8)),
  ip 112 (pMov (tg 9)),
  ip 113 (pBin .eql (tg 111) (tg 112)),
  im 3 114 (mCall 73 [(tg 113)]),
  ip 6 (pMov (tg 114))]
@[simp] def oe7_42_ap := ops_rule (c := oe7_42) rfl
def ce7_44 : SC := sSeq (sReg (seqI oe7_42)) sRet
@[simp] def ce7_44_ap := seq_rule (c := ce7_44) rfl
def oe7_43 : List IS := [ip 116 (pBin .eql (tg 55) (cv (.int .i64 15))),
  ip 115 (pMov (tg 116))]
@[simp] def oe7_43_ap := ops_rule (c := oe7_43) rfl
def oe7_44 : List IS := [ip 117 (pMov (tg 8)),
  ip 118 (pMov (tg 9)),
  ip 119 (pBin .neq (tg 117) (tg 118)),
  im 3 120 (mCall 73 [(tg 119)]),
  ip 6 (pMov (tg 120))]
@[simp] def oe7_44_ap := ops_rule (c := oe7_44) rfl
def ce7_45 : SC := sSeq (sReg (seqI oe7_44)) sRet
@[simp] def ce7_45_ap := seq_rule (c := ce7_45) rfl
def oe7_45 : List IS := [ip 122 (pBin .eql (tg 55) (cv (.int .i64 16))),
  ip 121 (pMov (tg 122))]
@[simp] def oe7_45_ap := ops_rule (c := oe7_45) rfl
def oe7_46 : List IS := [ip 123 (pMov (tg 8)),
  ip 124 (pMov (tg 9)),
  ip 125 (pBin .lss (tg 123) (tg 124)),
  im 3 126 (mCall 73 [(tg 125)]),
  ip 6 (pMov (tg 126))]
@[simp] def oe7_46_ap := ops_rule (c := oe7_46) rfl
def ce7_46 : SC := sSeq (sReg (seqI oe7_46)) sRet
@[simp] def ce7_46_ap := seq_rule (c := ce7_46) rfl
def oe7_47 : List IS := [ip 128 (pBin .eql (tg 55) (cv (.int .i64 17))),
  ip 127 (pMov (tg 128))]
@[simp] def oe7_47_ap := ops_rule (c := oe7_47) rfl
def oe7_48 : List IS := [ip 129 (pMov (tg 8)),
  ip 130 (pMov (tg 9)),
  ip 131 (pBin .leq (tg 129) (tg 130)),
  im 3 132 (mCall 73 [(tg 131)]),
  ip 6 (pMov (tg 132))]
@[simp] def oe7_48_ap := ops_rule (c := oe7_48) rfl
def ce7_47 : SC := sSeq (sReg (seqI oe7_48)) sRet
@[simp] def ce7_47_ap := seq_rule (c := ce7_47) rfl
def oe7_49 : List IS := [ip 134 (pBin .eql (tg 55) (cv (.int .i64 18))),
  ip 133 (pMov (tg 134))]
@[simp] def oe7_49_ap := ops_rule (c := oe7_49) rfl
def oe7_50 : List IS := [ip 135 (pMov (tg 9)),
  ip 136 (pMov (tg 8)),
  ip 137 (pBin .lss (tg 135) (tg 136)),
  im 3 138 (mCall 73 [(tg 137)]),
  ip 6 (pMov (tg 138))]
@[simp] def oe7_50_ap := ops_rule (c := oe7_50) rfl
def ce7_48 : SC := sSeq (sReg (seqI oe7_50)) sRet
@[simp] def ce7_48_ap := seq_rule (c := ce7_48) rfl
def ce7_49 : SC := sCond (tg 133) ce7_48 sSkip
@[simp] def ce7_49_ap := cond_rule (c := ce7_49) rfl
def ce7_50 : SC := sSeq (sReg (seqI oe7_49)) ce7_49
@[simp] def ce7_50_ap := seq_rule (c := ce7_50) rfl
def ce7_51 : SC := sCond (tg 127) ce7_47 ce7_50
@[simp] def ce7_51_ap := cond_rule (c := ce7_51) rfl
def ce7_52 : SC := sSeq (sReg (seqI oe7_47)) ce7_51
@[simp] def ce7_52_ap := seq_rule (c := ce7_52) rfl
def ce7_53 : SC := sCond (tg 121) ce7_46 ce7_52
@[simp] def ce7_53_ap := cond_rule (c := ce7_53) rfl
def ce7_54 : SC := sSeq (sReg (seqI oe7_45)) ce7_53
@[simp] def ce7_54_ap := seq_rule (c := ce7_54) rfl
def ce7_55 : SC := sCond (tg 115) ce7_45 ce7_54
@[simp] def ce7_55_ap := cond_rule (c := ce7_55) rfl
def ce7_56 : SC := sSeq (sReg (seqI oe7_43)) ce7_55
@[simp] def ce7_56_ap := seq_rule (c := ce7_56) rfl
def ce7_57 : SC := sCond (tg 109) ce7_44 ce7_56
@[simp] def ce7_57_ap := cond_rule (c := ce7_57) rfl
def ce7_58 : SC := sSeq (sReg (seqI oe7_41)) ce7_57
@[simp] def ce7_58_ap := seq_rule (c := ce7_58) rfl
def ce7_59 : SC := sCond (tg 104) ce7_43 ce7_58
@[simp] def ce7_59_ap := cond_rule (c := ce7_59) rfl
def ce7_60 : SC := sSeq (sReg (seqI oe7_39)) ce7_59
@[simp] def ce7_60_ap := seq_rule (c := ce7_60) rfl
def ce7_61 : SC := sCond (tg 99) ce7_42 ce7_60
@[simp] def ce7_61_ap := cond_rule (c := ce7_61) rfl
def ce7_62 : SC := sSeq (sReg (seqI oe7_37)) ce7_61
@[simp] def ce7_62_ap := seq_rule (c := ce7_62) rfl
def ce7_63 : SC := sCond (tg 94) ce7_41 ce7_62
@[simp] def ce7_63_ap := cond_rule (c := ce7_63) rfl
def ce7_64 : SC := sSeq (sReg (seqI oe7_35)) ce7_63
@[simp] def ce7_64_ap := seq_rule (c := ce7_64) rfl
def ce7_65 : SC := sCond (tg 83) ce7_40 ce7_64
@[simp] def ce7_65_ap := cond_rule (c := ce7_65) rfl
def ce7_66 : SC := sSeq (sReg (seqI oe7_29)) ce7_65
@[simp] def ce7_66_ap := seq_rule (c := ce7_66) rfl
def ce7_67 : SC := sCond (tg 71) ce7_30 ce7_66
@[simp] def ce7_67_ap := cond_rule (c := ce7_67) rfl
def ce7_68 : SC := sSeq (sReg (seqI oe7_23)) ce7_67
@[simp] def ce7_68_ap := seq_rule (c := ce7_68) rfl
def ce7_69 : SC := sCond (tg 66) ce7_20 ce7_68
@[simp] def ce7_69_ap := cond_rule (c := ce7_69) rfl
def ce7_70 : SC := sSeq (sReg (seqI oe7_21)) ce7_69
@[simp] def ce7_70_ap := seq_rule (c := ce7_70) rfl
def ce7_71 : SC := sCond (tg 61) ce7_19 ce7_70
@[simp] def ce7_71_ap := cond_rule (c := ce7_71) rfl
def ce7_72 : SC := sSeq (sReg (seqI oe7_19)) ce7_71
@[simp] def ce7_72_ap := seq_rule (c := ce7_72) rfl
def ce7_73 : SC := sCond (tg 56) ce7_18 ce7_72
@[simp] def ce7_73_ap := cond_rule (c := ce7_73) rfl
def ce7_74 : SC := sSeq (sReg (seqI oe7_17)) ce7_73
@[simp] def ce7_74_ap := seq_rule (c := ce7_74) rfl
def ce7_75 : SC := sBlock 1 ce7_74
@[simp] def ce7_75_ap := block_rule (c := ce7_75) rfl
def ce7_76 : SC := sSeq (sReg (seqI oe7_16)) ce7_75
@[simp] def ce7_76_ap := seq_rule (c := ce7_76) rfl
def oe7_51 : List IS := [ip 139 (pMov (tg 9)),
  ip 140 (pMov (tg 8)),
  ip 141 (pBin .leq (tg 139) (tg 140)),
  im 3 142 (mCall 73 [(tg 141)]),
  ip 6 (pMov (tg 142))]
@[simp] def oe7_51_ap := ops_rule (c := oe7_51) rfl
def ce7_77 : SC := sSeq (sReg (seqI oe7_51)) sRet
@[simp] def ce7_77_ap := seq_rule (c := ce7_77) rfl
def ce7_78 : SC := sSeq ce7_76 ce7_77
@[simp] def ce7_78_ap := seq_rule (c := ce7_78) rfl
def ce7_79 : SC := sSeq (sReg (seqI oe7_15)) ce7_78
@[simp] def ce7_79_ap := seq_rule (c := ce7_79) rfl
def ce7_80 : SC := sSeq ce7_17 ce7_79
@[simp] def ce7_80_ap := seq_rule (c := ce7_80) rfl
def ce7_81 : SC := sSeq (sReg (seqI oe7_7)) ce7_80
@[simp] def ce7_81_ap := seq_rule (c := ce7_81) rfl
def ce7_82 : SC := sSeq ce7_6 ce7_81
@[simp] def ce7_82_ap := seq_rule (c := ce7_82) rfl
def ce7_83 : SC := sSeq ce7_3 ce7_82
@[simp] def ce7_83_ap := seq_rule (c := ce7_83) rfl
def ce7_84 : SC := sSeq (sReg (seqI oe7_2)) ce7_83
@[simp] def ce7_84_ap := seq_rule (c := ce7_84) rfl
def ce7_85 : SC := sSeq (sReg (seqI oe7_1)) ce7_84
@[simp] def ce7_85_ap := seq_rule (c := ce7_85) rfl
def de7 : DFn := ⟨ce7_85, 143, [.t 6]⟩
theorem de7_ok : fnOf Tryz.prog 62 = some de7 := by kernel_rfl
def oe8_1 : List IS := [im 1 3 (mBox (tg 1)),
  ip 4 (pMov (cv (.int .i64 0)))]
@[simp] def oe8_1_ap := ops_rule (c := oe8_1) rfl
def oe8_2 : List IS := [ip 5 (pFaddr 3 (tg 3)),
  il 6 (tg 5) (mLoad1 (tg 5)),
  ip 7 (pBin .eql (tg 6) (cv (.int .i64 0)))]
@[simp] def oe8_2_ap := ops_rule (c := oe8_2) rfl
def oe8_3 : List IS := [ip 8 (pFaddr 2 (tg 3)),
  il 9 (tg 8) (mLoad1 (tg 8)),
  ip 4 (pMov (tg 9))]
@[simp] def oe8_3_ap := ops_rule (c := oe8_3) rfl
def ce8_1 : SC := sSeq (sReg (seqI oe8_3)) sRet
@[simp] def ce8_1_ap := seq_rule (c := ce8_1) rfl
def ce8_2 : SC := sCond (tg 7) ce8_1 sSkip
@[simp] def ce8_2_ap := cond_rule (c := ce8_2) rfl
def ce8_3 : SC := sSeq (sReg (seqI oe8_2)) ce8_2
@[simp] def ce8_3_ap := seq_rule (c := ce8_3) rfl
def oe8_4 : List DA := [⟨CI.pure (pFaddr 2 (tg 3)), (some 10), none, 0, []⟩,
  ⟨CI.load (tg 10) (mLoad1 (tg 10)), (some 11), none, 1, []⟩,
  ⟨CI.pure (pFaddr 4 (tg 3)), (some 12), none, 2, []⟩,
  ⟨CI.load (tg 12) (mLoad1 (tg 12)), (some 13), none, 3, []⟩,
  ⟨CI.pure (pMov (tg 0)), (some 14), none, 4, []⟩,
  ⟨CI.pure (pNilck (tg 14)), (some 15), none, 5, []⟩,
  ⟨CI.pure (pFaddr 3 (tg 15)), (some 16), none, 6, []⟩,
  ⟨CI.load (tg 16) (mLoad1 (tg 16)), (some 17), none, 7, []⟩,
  ⟨CI.mem 3 (mCall 38 [(tg 13), (tg 17)]), (some 18), none, 8, [1]⟩,
  ⟨CI.pure (pFaddr 3 (tg 3)), (some 19), none, 9, []⟩,
  ⟨CI.load (tg 19) (mLoad1 (tg 19)), (some 20), none, 10, [8]⟩,
  ⟨CI.pure (pBin .sub (tg 20) (cv (.int .i64 1))), (some 21), none, 11, []⟩,
  ⟨CI.pure (pConvI .u64 (tg 21)), (some 22), none, 12, []⟩,
  ⟨CI.pure (pBin .and (tg 18) (tg 22)), (some 23), none, 13, []⟩,
  ⟨CI.pure (pConvI .i64 (tg 23)), (some 24), none, 14, []⟩,
  ⟨CI.pure (pBin .add (tg 11) (tg 24)), (some 25), none, 15, []⟩,
  ⟨CI.pure (pMov (tg 25)), (some 4), none, 16, []⟩]
@[simp] def oe8_4_ap := das_rule (c := oe8_4) rfl
def ce8_4 : SC := sSeq (sAny oe8_4) sRet
@[simp] def ce8_4_ap := seq_rule (c := ce8_4) rfl
def ce8_5 : SC := sSeq ce8_3 ce8_4
@[simp] def ce8_5_ap := seq_rule (c := ce8_5) rfl
def ce8_6 : SC := sSeq (sReg (seqI oe8_1)) ce8_5
@[simp] def ce8_6_ap := seq_rule (c := ce8_6) rfl
def de8 : DFn := ⟨ce8_6, 26, [.t 4]⟩
theorem de8_ok : fnOf Tryz.prog 63 = some de8 := by kernel_rfl
def oe9_1 : List IS := [ip 2 (pMov (cv (.int .i64 0)))]
@[simp] def oe9_1_ap := ops_rule (c := oe9_1) rfl
def oe9_2 : List IS := [ip 3 (pBuild [(.int .i64 0), (.int .i64 0), (.int .i64 0), (.int .i64 0), (.int .i64 0), (.int .i64 0)] [(1, 1, (cv (.int .i64 1))), (2, 1, (cv (.int .i64 2))), (3, 1, (cv (.int .i64 1))), (4, 1, (cv (.int .i64 2))), (5, 1, (cv (.int .i64 5)))]),
  ip 4 (pMov (tg 0)),
  ip 5 (pIdx 6 false 1 (tg 3) (tg 4)),
  ip 2 (pMov (tg 5))]
@[simp] def oe9_2_ap := ops_rule (c := oe9_2) rfl
def ce9_1 : SC := sSeq (sReg (seqI oe9_2)) sRet
@[simp] def ce9_1_ap := seq_rule (c := ce9_1) rfl
def ce9_2 : SC := sSeq (sReg (seqI oe9_1)) ce9_1
@[simp] def ce9_2_ap := seq_rule (c := ce9_2) rfl
def de9 : DFn := ⟨ce9_2, 6, [.t 2]⟩
theorem de9_ok : fnOf Tryz.prog 64 = some de9 := by kernel_rfl
def of0_1 : List IS := [ip 2 (pMov (cv (.int .i64 0)))]
@[simp] def of0_1_ap := ops_rule (c := of0_1) rfl
def of0_2 : List IS := [ip 3 (pBuild [(.int .i64 0), (.int .i64 0), (.int .i64 0), (.int .i64 0), (.int .i64 0), (.int .i64 0)] [(1, 1, (cv (.int .i64 1))), (2, 1, (cv (.int .i64 1))), (3, 1, (cv (.int .i64 3))), (4, 1, (cv (.int .i64 3))), (5, 1, (cv (.int .i64 5)))]),
  ip 4 (pMov (tg 0)),
  ip 5 (pIdx 6 false 1 (tg 3) (tg 4)),
  ip 2 (pMov (tg 5))]
@[simp] def of0_2_ap := ops_rule (c := of0_2) rfl
def cf0_1 : SC := sSeq (sReg (seqI of0_2)) sRet
@[simp] def cf0_1_ap := seq_rule (c := cf0_1) rfl
def cf0_2 : SC := sSeq (sReg (seqI of0_1)) cf0_1
@[simp] def cf0_2_ap := seq_rule (c := cf0_2) rfl
def df0 : DFn := ⟨cf0_2, 6, [.t 2]⟩
theorem df0_ok : fnOf Tryz.prog 65 = some df0 := by kernel_rfl
def of1_1 : List IS := [ip 4 (pMov (cv (.bool false)))]
@[simp] def of1_1_ap := ops_rule (c := of1_1) rfl
def of1_2 : List IS := [ip 5 (pMov (tg 0))]
@[simp] def of1_2_ap := ops_rule (c := of1_2) rfl
def of1_3 : List IS := [ip 7 (pBin .eql (tg 5) (cv (.int .i64 2))),
  ip 6 (pMov (tg 7))]
@[simp] def of1_3_ap := ops_rule (c := of1_3) rfl
def of1_4 : List IS := [ip 8 (pMov (tg 1)),
  ip 9 (pBin .eql (tg 8) (cv (.int .i64 1))),
  ip 10 (pMov (tg 9)),
  gd 10 false (some 11) (ip 11 (pMov (tg 1))),
  gd 10 false (some 12) (ip 12 (pBin .eql (tg 11) (cv (.int .i64 2)))),
  ip 13 (pPick (tg 10) (cv (.bool true)) (tg 12)),
  ip 14 (pMov (tg 13)),
  gd 14 false (some 15) (ip 15 (pMov (tg 1))),
  gd 14 false (some 16) (ip 16 (pBin .eql (tg 15) (cv (.int .i64 5)))),
  ip 17 (pPick (tg 14) (cv (.bool true)) (tg 16)),
  ip 4 (pMov (tg 17))]
@[simp] def of1_4_ap := ops_rule (c := of1_4) rfl
def cf1_1 : SC := sSeq (sReg (seqI of1_4)) sRet
@[simp] def cf1_1_ap := seq_rule (c := cf1_1) rfl
def of1_5 : List IS := [ip 19 (pBin .eql (tg 5) (cv (.int .i64 3))),
  ip 18 (pMov (tg 19))]
@[simp] def of1_5_ap := ops_rule (c := of1_5) rfl
def of1_6 : List IS := [ip 20 (pMov (tg 1)),
  ip 21 (pBin .eql (tg 20) (cv (.int .i64 1))),
  ip 22 (pMov (tg 21)),
  gd 22 false (some 23) (ip 23 (pMov (tg 1))),
  gd 22 false (some 24) (ip 24 (pBin .eql (tg 23) (cv (.int .i64 3)))),
  ip 25 (pPick (tg 22) (cv (.bool true)) (tg 24)),
  ip 26 (pMov (tg 25)),
  gd 26 false (some 27) (ip 27 (pMov (tg 1))),
  gd 26 false (some 28) (ip 28 (pBin .eql (tg 27) (cv (.int .i64 5)))),
  ip 29 (pPick (tg 26) (cv (.bool true)) (tg 28)),
  ip 4 (pMov (tg 29))]
@[simp] def of1_6_ap := ops_rule (c := of1_6) rfl
def cf1_2 : SC := sSeq (sReg (seqI of1_6)) sRet
@[simp] def cf1_2_ap := seq_rule (c := cf1_2) rfl
def of1_7 : List IS := [ip 31 (pBin .eql (tg 5) (cv (.int .i64 4))),
  ip 30 (pMov (tg 31))]
@[simp] def of1_7_ap := ops_rule (c := of1_7) rfl
def of1_8 : List IS := [ip 32 (pBin .eql (tg 5) (cv (.int .i64 5))),
  ip 30 (pMov (tg 32))]
@[simp] def of1_8_ap := ops_rule (c := of1_8) rfl
def of1_9 : List IS := [ip 33 (pBin .eql (tg 5) (cv (.int .i64 6))),
  ip 30 (pMov (tg 33))]
@[simp] def of1_9_ap := ops_rule (c := of1_9) rfl
def cf1_3 : SC := sCond (tg 30) sSkip (sReg (seqI of1_9))
@[simp] def cf1_3_ap := cond_rule (c := cf1_3) rfl
def cf1_4 : SC := sSeq (sReg (seqI of1_8)) cf1_3
@[simp] def cf1_4_ap := seq_rule (c := cf1_4) rfl
def cf1_5 : SC := sCond (tg 30) sSkip cf1_4
@[simp] def cf1_5_ap := cond_rule (c := cf1_5) rfl
def cf1_6 : SC := sSeq (sReg (seqI of1_7)) cf1_5
@[simp] def cf1_6_ap := seq_rule (c := cf1_6) rfl
def of1_10 : List IS := [ip 34 (pMov (tg 1)),
  ip 35 (pBin .geq (tg 34) (cv (.int .i64 1))),
  ip 36 (pMov (tg 35)),
  gd 36 true (some 37) (ip 37 (pMov (tg 1))),
  gd 36 true (some 38) (ip 38 (pBin .leq (tg 37) (cv (.int .i64 5)))),
  ip 39 (pPick (tg 36) (tg 38) (cv (.bool false))),
  ip 4 (pMov (tg 39))]
@[simp] def of1_10_ap := ops_rule (c := of1_10) rfl
def cf1_7 : SC := sSeq (sReg (seqI of1_10)) sRet
@[simp] def cf1_7_ap := seq_rule (c := cf1_7) rfl
def of1_11 : List IS := [ip 41 (pBin .eql (tg 5) (cv (.int .i64 7))),
  ip 40 (pMov (tg 41))]
@[simp] def of1_11_ap := ops_rule (c := of1_11) rfl
def of1_12 : List IS := [ip 42 (pMov (tg 1)),
  ip 43 (pBin .geq (tg 42) (cv (.int .i64 2))),
  ip 44 (pMov (tg 43)),
  gd 44 true (some 45) (ip 45 (pMov (tg 1))),
  gd 44 true (some 46) (ip 46 (pBin .leq (tg 45) (cv (.int .i64 5)))),
  ip 47 (pPick (tg 44) (tg 46) (cv (.bool false))),
  ip 4 (pMov (tg 47))]
@[simp] def of1_12_ap := ops_rule (c := of1_12) rfl
def cf1_8 : SC := sSeq (sReg (seqI of1_12)) sRet
@[simp] def cf1_8_ap := seq_rule (c := cf1_8) rfl
def cf1_9 : SC := sCond (tg 40) cf1_8 sSkip
@[simp] def cf1_9_ap := cond_rule (c := cf1_9) rfl
def cf1_10 : SC := sSeq (sReg (seqI of1_11)) cf1_9
@[simp] def cf1_10_ap := seq_rule (c := cf1_10) rfl
def cf1_11 : SC := sCond (tg 30) cf1_7 cf1_10
@[simp] def cf1_11_ap := cond_rule (c := cf1_11) rfl
def cf1_12 : SC := sSeq cf1_6 cf1_11
@[simp] def cf1_12_ap := seq_rule (c := cf1_12) rfl
def cf1_13 : SC := sCond (tg 18) cf1_2 cf1_12
@[simp] def cf1_13_ap := cond_rule (c := cf1_13) rfl
def cf1_14 : SC := sSeq (sReg (seqI of1_5)) cf1_13
@[simp] def cf1_14_ap := seq_rule (c := cf1_14) rfl
def cf1_15 : SC := sCond (tg 6) cf1_1 cf1_14
@[simp] def cf1_15_ap := cond_rule (c := cf1_15) rfl
def cf1_16 : SC := sSeq (sReg (seqI of1_3)) cf1_15
@[simp] def cf1_16_ap := seq_rule (c := cf1_16) rfl
def cf1_17 : SC := sBlock 0 cf1_16
@[simp] def cf1_17_ap := block_rule (c := cf1_17) rfl
def cf1_18 : SC := sSeq (sReg (seqI of1_2)) cf1_17
@[simp] def cf1_18_ap := seq_rule (c := cf1_18) rfl
def of1_13 : List IS := [ip 48 (pMov (tg 1)),
  ip 49 (pBin .eql (tg 48) (cv (.int .i64 0))),
  ip 4 (pMov (tg 49))]
@[simp] def of1_13_ap := ops_rule (c := of1_13) rfl
def cf1_19 : SC := sSeq (sReg (seqI of1_13)) sRet
@[simp] def cf1_19_ap := seq_rule (c := cf1_19) rfl
def cf1_20 : SC := sSeq cf1_18 cf1_19
@[simp] def cf1_20_ap := seq_rule (c := cf1_20) rfl
def cf1_21 : SC := sSeq (sReg (seqI of1_1)) cf1_20
@[simp] def cf1_21_ap := seq_rule (c := cf1_21) rfl
def df1 : DFn := ⟨cf1_21, 50, [.t 4]⟩
theorem df1_ok : fnOf Tryz.prog 68 = some df1 := by kernel_rfl
def of2_1 : List IS := [im 1 2 (mAlloc [(.bool false), (.bool false), (.bool false), (.bool false), (.bool false)])]
@[simp] def of2_1_ap := ops_rule (c := of2_1) rfl
def of2_2 : List IS := [ip 3 (pBuild [(.bool false), (.bool false), (.bool false), (.bool false), (.bool false)] [(0, 1, (cv (.bool true))), (2, 1, (cv (.bool true)))]),
  ip 4 (pBuild [(.bool false), (.bool false), (.bool false), (.bool false), (.bool false)] [(0, 1, (cv (.bool true))), (1, 1, (cv (.bool true)))]),
  ip 5 (pBuild [(.bool false), (.bool false), (.bool false), (.bool false), (.bool false)] [(1, 1, (cv (.bool true))), (2, 1, (cv (.bool true)))]),
  ip 6 (pBuild [(.bool false), (.bool false), (.bool false), (.bool false), (.bool false)] [(0, 1, (cv (.bool true))), (1, 1, (cv (.bool true))), (2, 1, (cv (.bool true)))]),
  ip 7 (pBuild [(.bool false), (.bool false), (.bool false), (.bool false), (.bool false)] [(0, 1, (cv (.bool true))), (1, 1, (cv (.bool true))), (2, 1, (cv (.bool true)))]),
  ip 8 (pBuild [(.bool false), (.bool false), (.bool false), (.bool false), (.bool false)] [(0, 1, (cv (.bool true))), (1, 1, (cv (.bool true))), (2, 1, (cv (.bool true))), (3, 1, (cv (.bool true)))]),
  ip 9 (pBuild [(.bool false), (.bool false), (.bool false), (.bool false), (.bool false)] []),
  ip 10 (pBuild [(.bool false), (.bool false), (.bool false), (.bool false), (.bool false)] [(2, 1, (cv (.bool true)))]),
  ip 11 (pBuild [(.bool false), (.bool false), (.bool false), (.bool false), (.bool false)] [(4, 1, (cv (.bool true)))]),
  ip 12 (pBuild [(.bool false), (.bool false), (.bool false), (.bool false), (.bool false)] [(2, 1, (cv (.bool true))), (4, 1, (cv (.bool true)))]),
  ip 13 (pBuild [(.bool false), (.bool false), (.bool false), (.bool false), (.bool false), (.bool false), (.bool false), (.bool false), (.bool false), (.bool false), (.bool false), (.bool false), (.bool false), (.bool false), (.bool false), (.bool false), (.bool false), (.bool false), (.bool false), (.bool false), (.bool false), (.bool false), (.bool false), (.bool false), (.bool false), (.bool false), (.bool false), (.bool false), (.bool false), (.bool false), (.bool false), (.bool false), (.bool false), (.bool false), (.bool false), (.bool false), (.bool false), (.bool false), (.bool false), (.bool false), (.bool false), (.bool false), (.bool false), (.bool false), (.bool false), (.bool false), (.bool false), (.bool false), (.bool false), (.bool false), (.bool false), (.bool false), (.bool false), (.bool false), (.bool false)] [(5, 5, (tg 3)), (10, 5, (tg 4)), (15, 5, (tg 5)), (20, 5, (tg 6)), (25, 5, (tg 7)), (30, 5, (tg 8)), (35, 5, (tg 9)), (40, 5, (tg 10)), (45, 5, (tg 11)), (50, 5, (tg 12))]),
  ip 14 (pMov (tg 0)),
  ip 15 (pIdx 11 true 5 (tg 13) (tg 14)),
  im0 3 (mStore 5 (tg 2) (tg 15))]
@[simp] def of2_2_ap := ops_rule (c := of2_2) rfl
def cf2_1 : SC := sSeq (sReg (seqI of2_2)) sRet
@[simp] def cf2_1_ap := seq_rule (c := cf2_1) rfl
def cf2_2 : SC := sSeq (sReg (seqI of2_1)) cf2_1
@[simp] def cf2_2_ap := seq_rule (c := cf2_2) rfl
def df2 : DFn := ⟨cf2_2, 16, [.cell 2 5]⟩
theorem df2_ok : fnOf Tryz.prog 69 = some df2 := by kernel_rfl
def of3_1 : List IS := [im 1 3 (mBox (tg 0)),
  im 1 4 (mBox (tg 1)),
  ip 6 (pMov (cv (.bool false)))]
@[simp] def of3_1_ap := ops_rule (c := of3_1) rfl
def of3_2 : List IS := [ip 7 (pFaddr 3 (tg 3)),
  il 8 (tg 7) (mLoad1 (tg 7)),
  ip 9 (pBin .lss (tg 8) (cv (.int .i64 0))),
  ip 10 (pMov (tg 9)),
  gd 10 false (some 11) (ip 11 (pFaddr 3 (tg 3))),
  gd 10 false (some 12) (il 12 (tg 11) (mLoad1 (tg 11))),
  gd 10 false (some 13) (ip 13 (pBin .gtr (tg 12) (cv (.int .i64 1024)))),
  ip 14 (pPick (tg 10) (cv (.bool true)) (tg 13)),
  ip 15 (pMov (tg 14)),
  gd 15 false (some 16) (ip 16 (pFaddr 3 (tg 3))),
  gd 15 false (some 17) (il 17 (tg 16) (mLoad1 (tg 16))),
  gd 15 false (some 18) (ip 18 (pFaddr 3 (tg 3))),
  gd 15 false (some 19) (il 19 (tg 18) (mLoad1 (tg 18))),
  gd 15 false (some 20) (ip 20 (pBin .sub (tg 19) (cv (.int .i64 1)))),
  gd 15 false (some 21) (ip 21 (pBin .and (tg 17) (tg 20))),
  gd 15 false (some 22) (ip 22 (pBin .neq (tg 21) (cv (.int .i64 0)))),
  ip 23 (pPick (tg 15) (cv (.bool true)) (tg 22)),
  ip 24 (pMov (tg 23)),
  gd 24 false (some 25) (ip 25 (pFaddr 2 (tg 3))),
  gd 24 false (some 26) (il 26 (tg 25) (mLoad1 (tg 25))),
  gd 24 false (some 27) (ip 27 (pBin .lss (tg 26) (cv (.int .i64 0)))),
  ip 28 (pPick (tg 24) (cv (.bool true)) (tg 27)),
  ip 29 (pMov (tg 28)),
  gd 29 false (some 30) (ip 30 (pFaddr 2 (tg 3))),
  gd 29 false (some 31) (il 31 (tg 30) (mLoad1 (tg 30))),
  gd 29 false (some 32) (ip 32 (pFaddr 0 (tg 4))),
  gd 29 false (some 33) (il 33 (tg 32) (mLoad1 (tg 32))),
  gd 29 false (some 34) (ip 34 (pFaddr 3 (tg 3))),
  gd 29 false (some 35) (il 35 (tg 34) (mLoad1 (tg 34))),
  gd 29 false (some 36) (ip 36 (pMm True [(cv (.int .i64 1)), (tg 35)])),
  gd 29 false (some 37) (ip 37 (pBin .sub (tg 33) (tg 36))),
  gd 29 false (some 38) (ip 38 (pBin .gtr (tg 31) (tg 37))),
  ip 39 (pPick (tg 29) (cv (.bool true)) (tg 38))]
@[simp] def of3_2_ap := ops_rule (c := of3_2) rfl
def of3_3 : List IS := [ip 6 (pMov (cv (.bool false)))]
@[simp] def of3_3_ap := ops_rule (c := of3_3) rfl
def cf3_1 : SC := sSeq (sReg (seqI of3_3)) sRet
@[simp] def cf3_1_ap := seq_rule (c := cf3_1) rfl
def cf3_2 : SC := sCond (tg 39) cf3_1 sSkip
@[simp] def cf3_2_ap := cond_rule (c := cf3_2) rfl
def cf3_3 : SC := sSeq (sReg (seqI of3_2)) cf3_2
@[simp] def cf3_3_ap := seq_rule (c := cf3_3) rfl
def of3_4 : List IS := [ip 40 (pFaddr 3 (tg 3)),
  il 41 (tg 40) (mLoad1 (tg 40)),
  ip 42 (pBin .eql (tg 41) (cv (.int .i64 0))),
  ip 43 (pMov (tg 42)),
  gd 43 true (some 44) (ip 44 (pFaddr 4 (tg 3))),
  gd 43 true (some 45) (il 45 (tg 44) (mLoad1 (tg 44))),
  gd 43 true (some 46) (ip 46 (pLen (tg 45))),
  gd 43 true (some 47) (ip 47 (pBin .eql (tg 46) (cv (.int .i64 0)))),
  ip 48 (pPick (tg 43) (tg 47) (cv (.bool false))),
  ip 49 (pMov (tg 48)),
  gd 49 false (some 50) (ip 50 (pFaddr 3 (tg 3))),
  gd 49 false (some 51) (il 51 (tg 50) (mLoad1 (tg 50))),
  gd 49 false (some 52) (ip 52 (pBin .gtr (tg 51) (cv (.int .i64 0)))),
  gd 49 false (some 53) (ip 53 (pMov (tg 52))),
  gd 53 true (some 54) (ip 54 (pFaddr 4 (tg 3))),
  gd 53 true (some 55) (il 55 (tg 54) (mLoad1 (tg 54))),
  gd 53 true (some 56) (ip 56 (pMov (tg 2))),
  gd 53 true (some 57) (im 3 57 (mCall 71 [(tg 55), (tg 56)])),
  gd 49 false (some 58) (ip 58 (pPick (tg 53) (tg 57) (cv (.bool false)))),
  ip 59 (pPick (tg 49) (cv (.bool true)) (tg 58)),
  ip 6 (pMov (tg 59))]
@[simp] def of3_4_ap := ops_rule (c := of3_4) rfl
def cf3_4 : SC := sSeq (sReg (seqI of3_4)) sRet
@[simp] def cf3_4_ap := seq_rule (c := cf3_4) rfl
def cf3_5 : SC := sSeq cf3_3 cf3_4
@[simp] def cf3_5_ap := seq_rule (c := cf3_5) rfl
def cf3_6 : SC := sSeq (sReg (seqI of3_1)) cf3_5
@[simp] def cf3_6_ap := seq_rule (c := cf3_6) rfl
def df3 : DFn := ⟨cf3_6, 60, [.t 6]⟩
theorem df3_ok : fnOf Tryz.prog 70 = some df3 := by kernel_rfl
def of4_1 : List IS := [ip 4 (pMov (cv (.bool false)))]
@[simp] def of4_1_ap := ops_rule (c := of4_1) rfl
def of4_2 : List IS := [ip 9 (pMov (tg 0)),
  ip 10 (pLen (tg 9)),
  ip 11 (pMov (cv (.int .i64 0)))]
@[simp] def of4_2_ap := ops_rule (c := of4_2) rfl
def of4_3 : List IS := [ip 12 (pBin .lss (tg 11) (tg 10))]
@[simp] def of4_3_ap := ops_rule (c := of4_3) rfl
def cf4_1 : SC := sCond (tg 12) sSkip (sExit 0)
@[simp] def cf4_1_ap := cond_rule (c := cf4_1) rfl
def of4_4 : List IS := [ip 13 (pMov (tg 11)),
  ip 14 (pIaddrS 4 (tg 9) (tg 11)),
  il 15 (tg 14) (mLoadN 4 (tg 14)),
  im 1 6 (mAlloc [(.int .i64 0), (.int .u64 0), (.int .i64 0), (.int .i64 0)]),
  ip 5 (pMov (tg 13)),
  im0 3 (mStore 4 (tg 6) (tg 15))]
@[simp] def of4_4_ap := ops_rule (c := of4_4) rfl
def of4_5 : List DA := [⟨CI.pure (pFaddr 2 (tg 6)), (some 16), none, 0, []⟩,
  ⟨CI.load (tg 16) (mLoad1 (tg 16)), (some 17), none, 1, []⟩,
  ⟨CI.pure (pBin .geq (tg 17) (cv (.int .i64 0))), (some 18), none, 2, []⟩,
  ⟨CI.pure (pMov (tg 18)), (some 19), none, 3, []⟩,
  ⟨CI.pure (pFaddr 2 (tg 6)), (some 20), (some (19, true)), 4, []⟩,
  ⟨CI.load (tg 20) (mLoad1 (tg 20)), (some 21), (some (19, true)), 5, []⟩,
  ⟨CI.pure (pMov (tg 5)), (some 22), (some (19, true)), 6, []⟩,
  ⟨CI.pure (pBin .lss (tg 21) (tg 22)), (some 23), (some (19, true)), 7, []⟩,
  ⟨CI.pure (pPick (tg 19) (tg 23) (cv (.bool false))), (some 24), none, 8, []⟩,
  ⟨CI.pure (pFaddr 3 (tg 6)), (some 25), none, 9, []⟩,
  ⟨CI.load (tg 25) (mLoad1 (tg 25)), (some 26), none, 10, []⟩,
  ⟨CI.pure (pBin .geq (tg 26) (cv (.int .i64 0))), (some 27), none, 11, []⟩,
  ⟨CI.pure (pMov (tg 27)), (some 28), none, 12, []⟩,
  ⟨CI.pure (pFaddr 3 (tg 6)), (some 29), (some (28, true)), 13, []⟩,
  ⟨CI.load (tg 29) (mLoad1 (tg 29)), (some 30), (some (28, true)), 14, []⟩,
  ⟨CI.pure (pMov (tg 5)), (some 31), (some (28, true)), 15, []⟩,
  ⟨CI.pure (pBin .lss (tg 30) (tg 31)), (some 32), (some (28, true)), 16, []⟩,
  ⟨CI.pure (pPick (tg 28) (tg 32) (cv (.bool false))), (some 33), none, 17, []⟩,
  ⟨CI.pure (pMov (tg 24)), (some 7), none, 18, []⟩,
  ⟨CI.pure (pMov (tg 33)), (some 8), none, 19, []⟩]
@[simp] def of4_5_ap := das_rule (c := of4_5) rfl
def of4_6 : List IS := [ip 51 (pFaddr 0 (tg 6)),
  il 52 (tg 51) (mLoad1 (tg 51)),
  ip 53 (pBin .eql (tg 52) (cv (.int .i64 1))),
  ip 50 (pMov (tg 53))]
@[simp] def of4_6_ap := ops_rule (c := of4_6) rfl
def of4_7 : List DA := [⟨CI.pure (pFaddr 2 (tg 6)), (some 54), none, 0, []⟩,
  ⟨CI.load (tg 54) (mLoad1 (tg 54)), (some 55), none, 1, []⟩,
  ⟨CI.pure (pBin .eql (tg 55) (cv (.int .i64 0))), (some 56), none, 2, []⟩,
  ⟨CI.pure (pFaddr 3 (tg 6)), (some 57), none, 3, []⟩,
  ⟨CI.load (tg 57) (mLoad1 (tg 57)), (some 58), none, 4, []⟩,
  ⟨CI.pure (pBin .eql (tg 58) (cv (.int .i64 0))), (some 59), none, 5, []⟩,
  ⟨CI.pure (pMov (tg 56)), (some 7), none, 6, []⟩,
  ⟨CI.pure (pMov (tg 59)), (some 8), none, 7, []⟩]
@[simp] def of4_7_ap := das_rule (c := of4_7) rfl
def of4_8 : List IS := [ip 61 (pFaddr 0 (tg 6)),
  il 62 (tg 61) (mLoad1 (tg 61)),
  ip 63 (pBin .eql (tg 62) (cv (.int .i64 2))),
  ip 60 (pMov (tg 63))]
@[simp] def of4_8_ap := ops_rule (c := of4_8) rfl
def of4_9 : List DA := [⟨CI.pure (pFaddr 2 (tg 6)), (some 64), none, 0, []⟩,
  ⟨CI.load (tg 64) (mLoad1 (tg 64)), (some 65), none, 1, []⟩,
  ⟨CI.pure (pBin .eql (tg 65) (cv (.int .i64 0))), (some 66), none, 2, []⟩,
  ⟨CI.pure (pMov (tg 66)), (some 67), none, 3, []⟩,
  ⟨CI.pure (pFaddr 1 (tg 6)), (some 68), (some (67, true)), 4, []⟩,
  ⟨CI.load (tg 68) (mLoad1 (tg 68)), (some 69), (some (67, true)), 5, []⟩,
  ⟨CI.pure (pMov (tg 1)), (some 70), (some (67, true)), 6, []⟩,
  ⟨CI.pure (pConvI .u64 (tg 70)), (some 71), (some (67, true)), 7, []⟩,
  ⟨CI.pure (pBin .lss (tg 69) (tg 71)), (some 72), (some (67, true)), 8, []⟩,
  ⟨CI.pure (pPick (tg 67) (tg 72) (cv (.bool false))), (some 73), none, 9, []⟩,
  ⟨CI.pure (pFaddr 3 (tg 6)), (some 74), none, 10, []⟩,
  ⟨CI.load (tg 74) (mLoad1 (tg 74)), (some 75), none, 11, []⟩,
  ⟨CI.pure (pBin .eql (tg 75) (cv (.int .i64 0))), (some 76), none, 12, []⟩,
  ⟨CI.pure (pMov (tg 73)), (some 7), none, 13, []⟩,
  ⟨CI.pure (pMov (tg 76)), (some 8), none, 14, []⟩]
@[simp] def of4_9_ap := das_rule (c := of4_9) rfl
def of4_10 : List IS := [ip 78 (pFaddr 0 (tg 6)),
  il 79 (tg 78) (mLoad1 (tg 78)),
  ip 80 (pBin .geq (tg 79) (cv (.int .i64 3))),
  ip 81 (pMov (tg 80)),
  gd 81 true (some 82) (ip 82 (pFaddr 0 (tg 6))),
  gd 81 true (some 83) (il 83 (tg 82) (mLoad1 (tg 82))),
  gd 81 true (some 84) (ip 84 (pBin .leq (tg 83) (cv (.int .i64 5)))),
  ip 85 (pPick (tg 81) (tg 84) (cv (.bool false))),
  ip 77 (pMov (tg 85))]
@[simp] def of4_10_ap := ops_rule (c := of4_10) rfl
def of4_11 : List IS := [ip 86 (pFaddr 3 (tg 6)),
  il 87 (tg 86) (mLoad1 (tg 86)),
  ip 88 (pBin .eql (tg 87) (cv (.int .i64 0))),
  ip 89 (pMov (tg 88)),
  gd 89 true (some 90) (ip 90 (pFaddr 1 (tg 6))),
  gd 89 true (some 91) (il 91 (tg 90) (mLoad1 (tg 90))),
  gd 89 true (some 92) (ip 92 (pBin .eql (tg 91) (cv (.int .u64 0)))),
  ip 93 (pPick (tg 89) (tg 92) (cv (.bool false))),
  ip 8 (pMov (tg 93))]
@[simp] def of4_11_ap := ops_rule (c := of4_11) rfl
def of4_12 : List IS := [ip 34 (pMov (tg 8)),
  ip 35 (pMov (tg 34)),
  gd 35 true (some 36) (ip 36 (pFaddr 0 (tg 6))),
  gd 35 true (some 37) (il 37 (tg 36) (mLoad1 (tg 36))),
  gd 35 true (some 38) (ip 38 (pBin .geq (tg 37) (cv (.int .i64 6)))),
  ip 39 (pPick (tg 35) (tg 38) (cv (.bool false))),
  ip 40 (pMov (tg 39)),
  gd 40 true (some 41) (ip 41 (pFaddr 0 (tg 6))),
  gd 40 true (some 42) (il 42 (tg 41) (mLoad1 (tg 41))),
  gd 40 true (some 43) (ip 43 (pBin .leq (tg 42) (cv (.int .i64 19)))),
  ip 44 (pPick (tg 40) (tg 43) (cv (.bool false))),
  ip 45 (pMov (tg 44)),
  gd 45 true (some 46) (ip 46 (pFaddr 1 (tg 6))),
  gd 45 true (some 47) (il 47 (tg 46) (mLoad1 (tg 46))),
  gd 45 true (some 48) (ip 48 (pBin .eql (tg 47) (cv (.int .u64 0)))),
  ip 49 (pPick (tg 45) (tg 48) (cv (.bool false))),
  ip 8 (pMov (tg 49))]
@[simp] def of4_12_ap := ops_rule (c := of4_12) rfl
def cf4_2 : SC := sCond (tg 77) (sReg (seqI of4_11)) (sReg (seqI of4_12))
@[simp] def cf4_2_ap := cond_rule (c := cf4_2) rfl
def cf4_3 : SC := sSeq (sReg (seqI of4_10)) cf4_2
@[simp] def cf4_3_ap := seq_rule (c := cf4_3) rfl
def cf4_4 : SC := sCond (tg 60) (sAny of4_9) cf4_3
@[simp] def cf4_4_ap := cond_rule (c := cf4_4) rfl
def cf4_5 : SC := sSeq (sReg (seqI of4_8)) cf4_4
@[simp] def cf4_5_ap := seq_rule (c := cf4_5) rfl
def cf4_6 : SC := sCond (tg 50) (sAny of4_7) cf4_5
@[simp] def cf4_6_ap := cond_rule (c := cf4_6) rfl
def cf4_7 : SC := sSeq (sReg (seqI of4_6)) cf4_6
@[simp] def cf4_7_ap := seq_rule (c := cf4_7) rfl
def cf4_8 : SC := sBlock 2 cf4_7
@[simp] def cf4_8_ap := block_rule (c := cf4_8) rfl
def of4_13 : List IS := [ip 94 (pMov (tg 7)),
  ip 95 (pUn .not (tg 94)),
  ip 96 (pMov (tg 95)),
  gd 96 false (some 97) (ip 97 (pMov (tg 8))),
  gd 96 false (some 98) (ip 98 (pUn .not (tg 97))),
  ip 99 (pPick (tg 96) (cv (.bool true)) (tg 98))]
@[simp] def of4_13_ap := ops_rule (c := of4_13) rfl
def of4_14 : List IS := [ip 4 (pMov (cv (.bool false)))]
@[simp] def of4_14_ap := ops_rule (c := of4_14) rfl
def cf4_9 : SC := sSeq (sReg (seqI of4_14)) sRet
@[simp] def cf4_9_ap := seq_rule (c := cf4_9) rfl
def cf4_10 : SC := sCond (tg 99) cf4_9 sSkip
@[simp] def cf4_10_ap := cond_rule (c := cf4_10) rfl
def cf4_11 : SC := sSeq (sReg (seqI of4_13)) cf4_10
@[simp] def cf4_11_ap := seq_rule (c := cf4_11) rfl
def cf4_12 : SC := sSeq cf4_8 cf4_11
@[simp] def cf4_12_ap := seq_rule (c := cf4_12) rfl
def cf4_13 : SC := sSeq (sAny of4_5) cf4_12
@[simp] def cf4_13_ap := seq_rule (c := cf4_13) rfl
def cf4_14 : SC := sSeq (sReg (seqI of4_4)) cf4_13
@[simp] def cf4_14_ap := seq_rule (c := cf4_14) rfl
def cf4_15 : SC := sBlock 1 cf4_14
@[simp] def cf4_15_ap := block_rule (c := cf4_15) rfl
def of4_15 : List IS := [ip 100 (pBin .add (tg 11) (cv (.int .i64 1))),
  ip 11 (pMov (tg 100))]
@[simp] def of4_15_ap := ops_rule (c := of4_15) rfl
def cf4_16 : SC := sSeq cf4_15 (sReg (seqI of4_15))
@[simp] def cf4_16_ap := seq_rule (c := cf4_16) rfl
def cf4_17 : SC := sSeq cf4_1 cf4_16
@[simp] def cf4_17_ap := seq_rule (c := cf4_17) rfl
def cf4_18 : SC := sSeq (sReg (seqI of4_3)) cf4_17
@[simp] def cf4_18_ap := seq_rule (c := cf4_18) rfl
def cf4_19 : SC := sLoop cf4_18
def cf4_20 : SC := sBlock 0 cf4_19
@[simp] def cf4_20_ap := block_rule (c := cf4_20) rfl
def cf4_21 : SC := sSeq (sReg (seqI of4_2)) cf4_20
@[simp] def cf4_21_ap := seq_rule (c := cf4_21) rfl
def of4_16 : List IS := [ip 101 (pMov (tg 0)),
  ip 102 (pLen (tg 101)),
  ip 103 (pBin .gtr (tg 102) (cv (.int .i64 0))),
  ip 104 (pMov (tg 103)),
  gd 104 true (some 105) (ip 105 (pMov (tg 0))),
  gd 104 true (some 106) (ip 106 (pLen (tg 105))),
  gd 104 true (some 107) (ip 107 (pBin .leq (tg 106) (cv (.int .i64 65536)))),
  ip 108 (pPick (tg 104) (tg 107) (cv (.bool false))),
  ip 109 (pMov (tg 108)),
  gd 109 true (some 110) (ip 110 (pMov (tg 0))),
  gd 109 true (some 111) (im 3 111 (mCall 85 [(tg 110)])),
  ip 112 (pPick (tg 109) (tg 111) (cv (.bool false))),
  ip 4 (pMov (tg 112))]
@[simp] def of4_16_ap := ops_rule (c := of4_16) rfl
def cf4_22 : SC := sSeq (sReg (seqI of4_16)) sRet
@[simp] def cf4_22_ap := seq_rule (c := cf4_22) rfl
def cf4_23 : SC := sSeq cf4_21 cf4_22
@[simp] def cf4_23_ap := seq_rule (c := cf4_23) rfl
def cf4_24 : SC := sSeq (sReg (seqI of4_1)) cf4_23
@[simp] def cf4_24_ap := seq_rule (c := cf4_24) rfl
def df4 : DFn := ⟨cf4_24, 113, [.t 4]⟩
theorem df4_ok : fnOf Tryz.prog 71 = some df4 := by kernel_rfl
def of5_1 : List IS := [ip 2 (pMov (cv (.int .u64 0)))]
@[simp] def of5_1_ap := ops_rule (c := of5_1) rfl
def of5_2 : List IS := [ip 3 (pMov (tg 0))]
@[simp] def of5_2_ap := ops_rule (c := of5_2) rfl
def of5_3 : List IS := [ip 2 (pMov (cv (.int .u64 1)))]
@[simp] def of5_3_ap := ops_rule (c := of5_3) rfl
def cf5_1 : SC := sSeq (sReg (seqI of5_3)) sRet
@[simp] def cf5_1_ap := seq_rule (c := cf5_1) rfl
def cf5_2 : SC := sCond (tg 3) cf5_1 sSkip
@[simp] def cf5_2_ap := cond_rule (c := cf5_2) rfl
def cf5_3 : SC := sSeq (sReg (seqI of5_2)) cf5_2
@[simp] def cf5_3_ap := seq_rule (c := cf5_3) rfl
def of5_4 : List IS := [ip 2 (pMov (cv (.int .u64 0)))]
@[simp] def of5_4_ap := ops_rule (c := of5_4) rfl
def cf5_4 : SC := sSeq (sReg (seqI of5_4)) sRet
@[simp] def cf5_4_ap := seq_rule (c := cf5_4) rfl
def cf5_5 : SC := sSeq cf5_3 cf5_4
@[simp] def cf5_5_ap := seq_rule (c := cf5_5) rfl
def cf5_6 : SC := sSeq (sReg (seqI of5_1)) cf5_5
@[simp] def cf5_6_ap := seq_rule (c := cf5_6) rfl
def df5 : DFn := ⟨cf5_6, 4, [.t 2]⟩
theorem df5_ok : fnOf Tryz.prog 72 = some df5 := by kernel_rfl
def of6_1 : List IS := [ip 2 (pMov (cv (.int .u64 0)))]
@[simp] def of6_1_ap := ops_rule (c := of6_1) rfl
def of6_2 : List IS := [ip 3 (pMov (tg 0))]
@[simp] def of6_2_ap := ops_rule (c := of6_2) rfl
def of6_3 : List IS := [ip 2 (pMov (cv (.int .u64 1)))]
@[simp] def of6_3_ap := ops_rule (c := of6_3) rfl
def cf6_1 : SC := sSeq (sReg (seqI of6_3)) sRet
@[simp] def cf6_1_ap := seq_rule (c := cf6_1) rfl
def cf6_2 : SC := sCond (tg 3) cf6_1 sSkip
@[simp] def cf6_2_ap := cond_rule (c := cf6_2) rfl
def cf6_3 : SC := sSeq (sReg (seqI of6_2)) cf6_2
@[simp] def cf6_3_ap := seq_rule (c := cf6_3) rfl
def of6_4 : List IS := [ip 2 (pMov (cv (.int .u64 0)))]
@[simp] def of6_4_ap := ops_rule (c := of6_4) rfl
def cf6_4 : SC := sSeq (sReg (seqI of6_4)) sRet
@[simp] def cf6_4_ap := seq_rule (c := cf6_4) rfl
def cf6_5 : SC := sSeq cf6_3 cf6_4
@[simp] def cf6_5_ap := seq_rule (c := cf6_5) rfl
def cf6_6 : SC := sSeq (sReg (seqI of6_1)) cf6_5
@[simp] def cf6_6_ap := seq_rule (c := cf6_6) rfl
def df6 : DFn := ⟨cf6_6, 4, [.t 2]⟩
theorem df6_ok : fnOf Tryz.prog 73 = some df6 := by kernel_rfl
def of7_1 : List IS := [ip 2 (pMov (cv (.bool false)))]
@[simp] def of7_1_ap := ops_rule (c := of7_1) rfl
def of7_2 : List IS := [ip 8 (pMov (tg 0)),
  ip 9 (pLen (tg 8)),
  im 1 10 (mMkslice 1 8 [(.int .i64 0)] (tg 9) (tg 9)),
  ip 3 (pMov (tg 10))]
@[simp] def of7_2_ap := ops_rule (c := of7_2) rfl
def of7_3 : List IS := [ip 11 (pMov (tg 0)),
  ip 12 (pLen (tg 11)),
  ip 13 (pMov (cv (.int .i64 0)))]
@[simp] def of7_3_ap := ops_rule (c := of7_3) rfl
def of7_4 : List IS := [ip 14 (pBin .lss (tg 13) (tg 12))]
@[simp] def of7_4_ap := ops_rule (c := of7_4) rfl
def cf7_1 : SC := sCond (tg 14) sSkip (sExit 0)
@[simp] def cf7_1_ap := cond_rule (c := cf7_1) rfl
def of7_5 : List IS := [ip 15 (pIaddrS 4 (tg 11) (tg 13)),
  il 16 (tg 15) (mLoadN 4 (tg 15)),
  im 1 5 (mAlloc [(.int .i64 0), (.int .u64 0), (.int .i64 0), (.int .i64 0)]),
  im0 3 (mStore 4 (tg 5) (tg 16))]
@[simp] def of7_5_ap := ops_rule (c := of7_5) rfl
def of7_6 : List IS := [ip 17 (pFaddr 0 (tg 5)),
  il 18 (tg 17) (mLoad1 (tg 17)),
  ip 19 (pBin .geq (tg 18) (cv (.int .i64 3)))]
@[simp] def of7_6_ap := ops_rule (c := of7_6) rfl
def of7_7 : List IS := [ip 20 (pMov (tg 3)),
  ip 21 (pFaddr 2 (tg 5)),
  il 22 (tg 21) (mLoad1 (tg 21)),
  ip 23 (pIaddrS 1 (tg 20) (tg 22)),
  il 24 (tg 23) (mLoad1 (tg 23)),
  ip 25 (pBin .add (tg 24) (cv (.int .i64 1))),
  ip 26 (pIaddrS 1 (tg 20) (tg 22)),
  im0 3 (mStore 1 (tg 26) (tg 25))]
@[simp] def of7_7_ap := ops_rule (c := of7_7) rfl
def cf7_2 : SC := sCond (tg 19) (sReg (seqI of7_7)) sSkip
@[simp] def cf7_2_ap := cond_rule (c := cf7_2) rfl
def cf7_3 : SC := sSeq (sReg (seqI of7_6)) cf7_2
@[simp] def cf7_3_ap := seq_rule (c := cf7_3) rfl
def of7_8 : List IS := [ip 27 (pFaddr 0 (tg 5)),
  il 28 (tg 27) (mLoad1 (tg 27)),
  ip 29 (pBin .geq (tg 28) (cv (.int .i64 6)))]
@[simp] def of7_8_ap := ops_rule (c := of7_8) rfl
def of7_9 : List IS := [ip 30 (pMov (tg 3)),
  ip 31 (pFaddr 3 (tg 5)),
  il 32 (tg 31) (mLoad1 (tg 31)),
  ip 33 (pIaddrS 1 (tg 30) (tg 32)),
  il 34 (tg 33) (mLoad1 (tg 33)),
  ip 35 (pBin .add (tg 34) (cv (.int .i64 1))),
  ip 36 (pIaddrS 1 (tg 30) (tg 32)),
  im0 3 (mStore 1 (tg 36) (tg 35))]
@[simp] def of7_9_ap := ops_rule (c := of7_9) rfl
def cf7_4 : SC := sCond (tg 29) (sReg (seqI of7_9)) sSkip
@[simp] def cf7_4_ap := cond_rule (c := cf7_4) rfl
def cf7_5 : SC := sSeq (sReg (seqI of7_8)) cf7_4
@[simp] def cf7_5_ap := seq_rule (c := cf7_5) rfl
def cf7_6 : SC := sSeq cf7_3 cf7_5
@[simp] def cf7_6_ap := seq_rule (c := cf7_6) rfl
def cf7_7 : SC := sSeq (sReg (seqI of7_5)) cf7_6
@[simp] def cf7_7_ap := seq_rule (c := cf7_7) rfl
def cf7_8 : SC := sBlock 1 cf7_7
@[simp] def cf7_8_ap := block_rule (c := cf7_8) rfl
def of7_10 : List IS := [ip 37 (pBin .add (tg 13) (cv (.int .i64 1))),
  ip 13 (pMov (tg 37))]
@[simp] def of7_10_ap := ops_rule (c := of7_10) rfl
def cf7_9 : SC := sSeq cf7_8 (sReg (seqI of7_10))
@[simp] def cf7_9_ap := seq_rule (c := cf7_9) rfl
def cf7_10 : SC := sSeq cf7_1 cf7_9
@[simp] def cf7_10_ap := seq_rule (c := cf7_10) rfl
def cf7_11 : SC := sSeq (sReg (seqI of7_4)) cf7_10
@[simp] def cf7_11_ap := seq_rule (c := cf7_11) rfl
def cf7_12 : SC := sLoop cf7_11
def cf7_13 : SC := sBlock 0 cf7_12
@[simp] def cf7_13_ap := block_rule (c := cf7_13) rfl
def cf7_14 : SC := sSeq (sReg (seqI of7_3)) cf7_13
@[simp] def cf7_14_ap := seq_rule (c := cf7_14) rfl
def of7_11 : List IS := [ip 38 (pMov (tg 3)),
  ip 39 (pLen (tg 38)),
  ip 40 (pMov (cv (.int .i64 0)))]
@[simp] def of7_11_ap := ops_rule (c := of7_11) rfl
def of7_12 : List IS := [ip 41 (pBin .lss (tg 40) (tg 39))]
@[simp] def of7_12_ap := ops_rule (c := of7_12) rfl
def cf7_15 : SC := sCond (tg 41) sSkip (sExit 2)
@[simp] def cf7_15_ap := cond_rule (c := cf7_15) rfl
def of7_13 : List IS := [ip 42 (pMov (tg 40)),
  ip 43 (pIaddrS 1 (tg 38) (tg 40)),
  il 44 (tg 43) (mLoad1 (tg 43)),
  ip 6 (pMov (tg 42)),
  ip 7 (pMov (tg 44))]
@[simp] def of7_13_ap := ops_rule (c := of7_13) rfl
def of7_14 : List IS := [ip 45 (pMov (tg 7)),
  ip 46 (pBin .eql (tg 45) (cv (.int .i64 1))),
  ip 47 (pMov (tg 6)),
  ip 48 (pMov (tg 0)),
  ip 49 (pLen (tg 48)),
  ip 50 (pBin .sub (tg 49) (cv (.int .i64 1))),
  ip 51 (pBin .lss (tg 47) (tg 50)),
  ip 52 (pEqB true (tg 46) (tg 51)),
  ip 53 (pMov (tg 52)),
  gd 53 false (some 54) (ip 54 (pMov (tg 7))),
  gd 53 false (some 55) (ip 55 (pBin .gtr (tg 54) (cv (.int .i64 1)))),
  ip 56 (pPick (tg 53) (cv (.bool true)) (tg 55))]
@[simp] def of7_14_ap := ops_rule (c := of7_14) rfl
def of7_15 : List IS := [ip 2 (pMov (cv (.bool false)))]
@[simp] def of7_15_ap := ops_rule (c := of7_15) rfl
def cf7_16 : SC := sSeq (sReg (seqI of7_15)) sRet
@[simp] def cf7_16_ap := seq_rule (c := cf7_16) rfl
def cf7_17 : SC := sCond (tg 56) cf7_16 sSkip
@[simp] def cf7_17_ap := cond_rule (c := cf7_17) rfl
def cf7_18 : SC := sSeq (sReg (seqI of7_14)) cf7_17
@[simp] def cf7_18_ap := seq_rule (c := cf7_18) rfl
def cf7_19 : SC := sSeq (sReg (seqI of7_13)) cf7_18
@[simp] def cf7_19_ap := seq_rule (c := cf7_19) rfl
def cf7_20 : SC := sBlock 3 cf7_19
@[simp] def cf7_20_ap := block_rule (c := cf7_20) rfl
def of7_16 : List IS := [ip 57 (pBin .add (tg 40) (cv (.int .i64 1))),
  ip 40 (pMov (tg 57))]
@[simp] def of7_16_ap := ops_rule (c := of7_16) rfl
def cf7_21 : SC := sSeq cf7_20 (sReg (seqI of7_16))
@[simp] def cf7_21_ap := seq_rule (c := cf7_21) rfl
def cf7_22 : SC := sSeq cf7_15 cf7_21
@[simp] def cf7_22_ap := seq_rule (c := cf7_22) rfl
def cf7_23 : SC := sSeq (sReg (seqI of7_12)) cf7_22
@[simp] def cf7_23_ap := seq_rule (c := cf7_23) rfl
def cf7_24 : SC := sLoop cf7_23
def cf7_25 : SC := sBlock 2 cf7_24
@[simp] def cf7_25_ap := block_rule (c := cf7_25) rfl
def cf7_26 : SC := sSeq (sReg (seqI of7_11)) cf7_25
@[simp] def cf7_26_ap := seq_rule (c := cf7_26) rfl
def of7_17 : List IS := [ip 2 (pMov (cv (.bool true)))]
@[simp] def of7_17_ap := ops_rule (c := of7_17) rfl
def cf7_27 : SC := sSeq (sReg (seqI of7_17)) sRet
@[simp] def cf7_27_ap := seq_rule (c := cf7_27) rfl
def cf7_28 : SC := sSeq cf7_26 cf7_27
@[simp] def cf7_28_ap := seq_rule (c := cf7_28) rfl
def cf7_29 : SC := sSeq cf7_14 cf7_28
@[simp] def cf7_29_ap := seq_rule (c := cf7_29) rfl
def cf7_30 : SC := sSeq (sReg (seqI of7_2)) cf7_29
@[simp] def cf7_30_ap := seq_rule (c := cf7_30) rfl
def cf7_31 : SC := sSeq (sReg (seqI of7_1)) cf7_30
@[simp] def cf7_31_ap := seq_rule (c := cf7_31) rfl
def df7 : DFn := ⟨cf7_31, 58, [.t 2]⟩
theorem df7_ok : fnOf Tryz.prog 85 = some df7 := by kernel_rfl
end
end Go.Sx
