/- Compiled code. -/
import Derived.Test.YtjoapkgigchboaaGa
import Derived.Test.YtjoapkgigchboaaProg
import Derived.KernelRfl
set_option linter.unusedVariables false
set_option linter.unusedSimpArgs false
set_option linter.defProp false
namespace Go.Sx
open Go.Dx Go.Proofs
noncomputable section
def oa0_1 : List IS := [im 1 2 (mAlloc [(.int .i64 0), (.int .i64 0), (.int .i64 0), (.int .i64 0), (.int .i64 0), (.int .i64 0)]),
  ip 3 (pMov (cv (.int .i64 0)))]
@[simp] def oa0_1_ap := ops_rule (c := oa0_1) rfl
def oa0_2 : List IS := [ip 11 (pMov (tg 0)),
  ip 12 (pShift .shr (tg 11) (cv (.int .u64 24))),
  ip 4 (pMov (tg 12))]
@[simp] def oa0_2_ap := ops_rule (c := oa0_2) rfl
def oa0_3 : List IS := [ip 13 (pMov (tg 4)),
  ip 14 (pBin .eql (tg 13) (cv (.int .u32 213))),
  ip 15 (pMov (tg 14)),
  gd 15 false (some 16) (ip 16 (pMov (tg 4))),
  gd 15 false (some 17) (ip 17 (pBin .eql (tg 16) (cv (.int .u32 212)))),
  ip 18 (pPick (tg 15) (cv (.bool true)) (tg 17))]
@[simp] def oa0_3_ap := ops_rule (c := oa0_3) rfl
def oa0_4 : List IS := [im 3 19 (mCall 48 [])]
@[simp] def oa0_4_ap := ops_rule (c := oa0_4) rfl
def oa0_5 : List IS := [ip 24 (pExtract (tg 23) 0), ip 25 (pExtract (tg 23) 1), ip 5 (pMov (tg 24)), ip 6 (pMov (tg 25))]
@[simp] def oa0_5_ap := ops_rule (c := oa0_5) rfl
def oa0_6 : List IS := [ip 26 (pMov (tg 6)),
  ip 27 (pMov (tg 0)),
  ip 28 (pBin .eql (tg 26) (tg 27))]
@[simp] def oa0_6_ap := ops_rule (c := oa0_6) rfl
def oa0_7 : List IS := [ip 29 (pMov (tg 5)),
  ip 30 (pBuild [(.int .i64 0), (.int .i64 0), (.int .i64 0), (.int .i64 0), (.int .i64 0), (.int .i64 0)] [(0, 1, (tg 29))]),
  im0 3 (mStore 6 (tg 2) (tg 30)),
  ip 3 (pMov (cv (.int .i64 0)))]
@[simp] def oa0_7_ap := ops_rule (c := oa0_7) rfl
def ca0_1 : SC := sSeq (sReg (seqI oa0_7)) sRet
@[simp] def ca0_1_ap := seq_rule (c := ca0_1) rfl
def ca0_2 : SC := sCond (tg 28) ca0_1 sSkip
@[simp] def ca0_2_ap := cond_rule (c := ca0_2) rfl
def ca0_3 : SC := sSeq (sReg (seqI oa0_6)) ca0_2
@[simp] def ca0_3_ap := seq_rule (c := ca0_3) rfl
def q_code_Decode_1 : RmP := ⟨(tg 19), 20, 21, 22, 23, 0, 1, oa0_4, oa0_5⟩
def ca0_4 : SC := sRm 56 q_code_Decode_1 ca0_3
@[simp] def ca0_4_ap := rm_rule (c := ca0_4) (p := q_code_Decode_1) (pre := oa0_4) rfl rfl
@[simp] def q_code_Decode_1_rd := rd_rule (p := q_code_Decode_1) (c := ca0_3) (asn := oa0_5) (nx := 21) (mo := 22) (pr := 23) (nxt := 1) rfl rfl rfl rfl rfl
def ca0_5 : SC := sCond (tg 18) ca0_4 sSkip
@[simp] def ca0_5_ap := cond_rule (c := ca0_5) rfl
def ca0_6 : SC := sSeq (sReg (seqI oa0_3)) ca0_5
@[simp] def ca0_6_ap := seq_rule (c := ca0_6) rfl
def ca0_7 : SC := sSeq (sReg (seqI oa0_2)) ca0_6
@[simp] def ca0_7_ap := seq_rule (c := ca0_7) rfl
def oa0_8 : List IS := [ip 7 (pMov (cv (.int .i64 1)))]
@[simp] def oa0_8_ap := ops_rule (c := oa0_8) rfl
def oa0_9 : List IS := [ip 31 (pMov (tg 7)),
  ip 32 (pBin .leq (tg 31) (cv (.int .i64 47)))]
@[simp] def oa0_9_ap := ops_rule (c := oa0_9) rfl
def ca0_8 : SC := sCond (tg 32) sSkip (sExit 2)
@[simp] def ca0_8_ap := cond_rule (c := ca0_8) rfl
def ca0_9 : SC := sSeq (sReg (seqI oa0_9)) ca0_8
@[simp] def ca0_9_ap := seq_rule (c := ca0_9) rfl
def oa0_10 : List IS := [ip 36 (pMov (tg 7)),
  im 3 37 (mCall 49 [(tg 36)]),
  ip 35 (pMov (tg 37)),
  ip 38 (pExtract (tg 35) 0),
  ip 39 (pExtract (tg 35) 1),
  im 1 8 (mAlloc [(.int .u32 0), (.int .i64 0), (.int .i64 0), (.int .i64 0), (.int .i64 0), (.int .i64 0), (.bool false), (.int .i64 0), (.int .i64 0), (.int .i64 0), (.int .i64 0), (.int .i64 0), (.bool false), (.int .i64 0), (.int .i64 0), (.int .i64 0), (.int .i64 0), (.int .i64 0), (.bool false), (.int .i64 0), (.int .i64 0), (.int .i64 0), (.int .i64 0), (.int .i64 0), (.bool false), (.int .i64 0), (.int .i64 0), (.int .i64 0), (.int .i64 0), (.int .i64 0), (.bool false)]),
  im0 3 (mStore 31 (tg 8) (tg 38)),
  ip 9 (pMov (tg 39))]
@[simp] def oa0_10_ap := ops_rule (c := oa0_10) rfl
def oa0_11 : List IS := [il 40 (tg 8) (mLoadN 31 (tg 8)),
  ip 41 (pMov (tg 7)),
  ip 42 (pMov (tg 0)),
  im 3 43 (mCall 50 [(tg 40), (tg 41), (tg 42)]),
  im 1 10 (mAlloc [(.int .i64 0), (.int .i64 0), (.int .i64 0), (.int .i64 0), (.int .i64 0), (.int .i64 0)]),
  im0 3 (mStore 6 (tg 10) (tg 43))]
@[simp] def oa0_11_ap := ops_rule (c := oa0_11) rfl
def oa0_12 : List IS := [il 44 (tg 8) (mLoadN 31 (tg 8)),
  il 45 (tg 10) (mLoadN 6 (tg 10)),
  im 3 46 (mCall 51 [(tg 44), (tg 45)]),
  ip 47 (pMov (tg 46)),
  gd 47 true (some 48) (il 48 (tg 8) (mLoadN 31 (tg 8))),
  gd 47 true (some 49) (il 49 (tg 10) (mLoadN 6 (tg 10))),
  gd 47 true (some 50) (im 3 50 (mCall 52 [(tg 48), (tg 49)])),
  gd 47 true (some 51) (ip 51 (pMov (tg 0))),
  gd 47 true (some 52) (ip 52 (pBin .eql (tg 50) (tg 51))),
  ip 53 (pPick (tg 47) (tg 52) (cv (.bool false)))]
@[simp] def oa0_12_ap := ops_rule (c := oa0_12) rfl
def oa0_13 : List IS := [il 54 (tg 10) (mLoadN 6 (tg 10)),
  im0 3 (mStore 6 (tg 2) (tg 54)),
  ip 3 (pMov (cv (.int .i64 0)))]
@[simp] def oa0_13_ap := ops_rule (c := oa0_13) rfl
def ca0_10 : SC := sSeq (sReg (seqI oa0_13)) sRet
@[simp] def ca0_10_ap := seq_rule (c := ca0_10) rfl
def ca0_11 : SC := sCond (tg 53) ca0_10 sSkip
@[simp] def ca0_11_ap := cond_rule (c := ca0_11) rfl
def ca0_12 : SC := sSeq (sReg (seqI oa0_12)) ca0_11
@[simp] def ca0_12_ap := seq_rule (c := ca0_12) rfl
def ca0_13 : SC := sSeq (sReg (seqI oa0_11)) ca0_12
@[simp] def ca0_13_ap := seq_rule (c := ca0_13) rfl
def ca0_14 : SC := sSeq (sReg (seqI oa0_10)) ca0_13
@[simp] def ca0_14_ap := seq_rule (c := ca0_14) rfl
def ca0_15 : SC := sBlock 3 ca0_14
@[simp] def ca0_15_ap := block_rule (c := ca0_15) rfl
def oa0_14 : List IS := [ip 33 (pMov (tg 7)),
  ip 34 (pBin .add (tg 33) (cv (.int .i64 1))),
  ip 7 (pMov (tg 34))]
@[simp] def oa0_14_ap := ops_rule (c := oa0_14) rfl
def ca0_16 : SC := sSeq ca0_15 (sReg (seqI oa0_14))
@[simp] def ca0_16_ap := seq_rule (c := ca0_16) rfl
def ca0_17 : SC := sSeq ca0_9 ca0_16
@[simp] def ca0_17_ap := seq_rule (c := ca0_17) rfl
def ca0_18 : SC := sLoop ca0_17
def ca0_19 : SC := sBlock 2 ca0_18
@[simp] def ca0_19_ap := block_rule (c := ca0_19) rfl
def ca0_20 : SC := sSeq (sReg (seqI oa0_8)) ca0_19
@[simp] def ca0_20_ap := seq_rule (c := ca0_20) rfl
def oa0_15 : List IS := [ip 55 (pBuild [(.int .i64 0), (.int .i64 0), (.int .i64 0), (.int .i64 0), (.int .i64 0), (.int .i64 0)] []),
  im0 3 (mStore 6 (tg 2) (tg 55)),
  ip 3 (pMov (cv (.int .i64 7)))]
@[simp] def oa0_15_ap := ops_rule (c := oa0_15) rfl
def ca0_21 : SC := sSeq (sReg (seqI oa0_15)) sRet
@[simp] def ca0_21_ap := seq_rule (c := ca0_21) rfl
def ca0_22 : SC := sSeq ca0_20 ca0_21
@[simp] def ca0_22_ap := seq_rule (c := ca0_22) rfl
def ca0_23 : SC := sSeq ca0_7 ca0_22
@[simp] def ca0_23_ap := seq_rule (c := ca0_23) rfl
def ca0_24 : SC := sSeq (sReg (seqI oa0_1)) ca0_23
@[simp] def ca0_24_ap := seq_rule (c := ca0_24) rfl
def da0 : DFn := ⟨ca0_24, 56, [.cell 2 6, .t 3]⟩
theorem da0_ok : fnOf Try.prog 29 = some da0 := by kernel_rfl
def oa1_1 : List IS := [ip 0 (pMov (cv (.map none)))]
@[simp] def oa1_1_ap := ops_rule (c := oa1_1) rfl
def oa1_2 : List IS := [im 3 1 mMkmap,
  im0 3 (mMapup (tg 1) (cv (.int .i64 30)) (cv (.int .u32 3573759423))),
  im0 3 (mMapup (tg 1) (cv (.int .i64 31)) (cv (.int .u32 3573759935))),
  im0 3 (mMapup (tg 1) (cv (.int .i64 32)) (cv (.int .u32 3573751839))),
  im0 3 (mMapup (tg 1) (cv (.int .i64 34)) (cv (.int .u32 3560964096))),
  ip 2 (pMov (tg 1)),
  ip 0 (pMov (tg 2))]
@[simp] def oa1_2_ap := ops_rule (c := oa1_2) rfl
def ca1_1 : SC := sSeq (sReg (seqI oa1_2)) sRet
@[simp] def ca1_1_ap := seq_rule (c := ca1_1) rfl
def ca1_2 : SC := sSeq (sReg (seqI oa1_1)) ca1_1
@[simp] def ca1_2_ap := seq_rule (c := ca1_2) rfl
def da1 : DFn := ⟨ca1_2, 3, [.t 0]⟩
theorem da1_ok : fnOf Try.prog 48 = some da1 := by kernel_rfl
def oa2_1 : List IS := [im 1 2 (mAlloc [(.int .u32 0), (.int .i64 0), (.int .i64 0), (.int .i64 0), (.int .i64 0), (.int .i64 0), (.bool false), (.int .i64 0), (.int .i64 0), (.int .i64 0), (.int .i64 0), (.int .i64 0), (.bool false), (.int .i64 0), (.int .i64 0), (.int .i64 0), (.int .i64 0), (.int .i64 0), (.bool false), (.int .i64 0), (.int .i64 0), (.int .i64 0), (.int .i64 0), (.int .i64 0), (.bool false), (.int .i64 0), (.int .i64 0), (.int .i64 0), (.int .i64 0), (.int .i64 0), (.bool false)]),
  ip 3 (pMov (cv (.bool false)))]
@[simp] def oa2_1_ap := ops_rule (c := oa2_1) rfl
def oa2_2 : List IS := [ip 5 (pMov (tg 0)),
  ip 6 (pBin .lss (tg 5) (cv (.int .i64 1))),
  ip 7 (pMov (tg 6)),
  gd 7 false (some 8) (ip 8 (pMov (tg 0))),
  gd 7 false (some 9) (ip 9 (pBin .gtr (tg 8) (cv (.int .i64 47)))),
  ip 10 (pPick (tg 7) (cv (.bool true)) (tg 9))]
@[simp] def oa2_2_ap := ops_rule (c := oa2_2) rfl
def oa2_3 : List IS := [il 11 (tg 2) (mLoadN 31 (tg 2)),
  im0 3 (mStore 31 (tg 2) (tg 11)),
  ip 3 (pMov (cv (.bool false)))]
@[simp] def oa2_3_ap := ops_rule (c := oa2_3) rfl
def ca2_1 : SC := sSeq (sReg (seqI oa2_3)) sRet
@[simp] def ca2_1_ap := seq_rule (c := ca2_1) rfl
def ca2_2 : SC := sCond (tg 10) ca2_1 sSkip
@[simp] def ca2_2_ap := cond_rule (c := ca2_2) rfl
def ca2_3 : SC := sSeq (sReg (seqI oa2_2)) ca2_2
@[simp] def ca2_3_ap := seq_rule (c := ca2_3) rfl
def oa2_4 : List IS := [ip 12 (pMov (tg 0)),
  im 3 13 (mCall 65 [(tg 12)]),
  ip 14 (pFaddr 0 (tg 2)),
  im0 3 (mStore 1 (tg 14) (tg 13))]
@[simp] def oa2_4_ap := ops_rule (c := oa2_4) rfl
def oa2_5 : List IS := [ip 15 (pFaddr 1 (tg 2)),
  ip 4 (pMov (tg 15))]
@[simp] def oa2_5_ap := ops_rule (c := oa2_5) rfl
def oa2_6 : List IS := [ip 29 (pFaddr 0 (tg 2)),
  il 30 (tg 29) (mLoad1 (tg 29)),
  ip 31 (pBin .eql (tg 30) (cv (.int .u32 0))),
  ip 28 (pMov (tg 31))]
@[simp] def oa2_6_ap := ops_rule (c := oa2_6) rfl
def oa2_7 : List IS := [im 3 32 (mCall 48 []),
  ip 33 (pMov (tg 0)),
  im 3 34 (mLookup (.int .u32 0) false (tg 32) (tg 33)),
  ip 35 (pFaddr 0 (tg 2)),
  im0 3 (mStore 1 (tg 35) (tg 34))]
@[simp] def oa2_7_ap := ops_rule (c := oa2_7) rfl
def oa2_8 : List IS := [ip 37 (pMov (tg 0)),
  ip 38 (pBin .leq (tg 37) (cv (.int .i64 2))),
  ip 36 (pMov (tg 38))]
@[simp] def oa2_8_ap := ops_rule (c := oa2_8) rfl
def oa2_9 : List DA := [⟨CI.pure (pMov (tg 4)), (some 39), none, 0, []⟩,
  ⟨CI.pure (pMov (tg 4)), (some 40), none, 1, []⟩,
  ⟨CI.pure (pMov (tg 4)), (some 41), none, 2, []⟩,
  ⟨CI.mem 3 (mCall 66 [(cv (.int .i64 0))]), (some 42), none, 3, []⟩,
  ⟨CI.mem 3 (mCall 67 [(cv (.int .i64 5)), (cv (.int .i64 16)), (cv (.int .i64 65535)), (cv (.int .i64 1))]), (some 43), none, 4, []⟩,
  ⟨CI.mem 3 (mCall 67 [(cv (.int .i64 21)), (cv (.int .i64 2)), (cv (.int .i64 3)), (cv (.int .i64 1))]), (some 44), none, 5, []⟩,
  ⟨CI.pure (pNilck (tg 39)), (some 45), none, 6, []⟩,
  ⟨CI.pure (pIaddrA 5 6 (tg 45) (cv (.int .i64 0))), (some 46), none, 7, []⟩,
  ⟨CI.mem 3 (mStore 6 (tg 46) (tg 42)), none, none, 8, []⟩,
  ⟨CI.pure (pNilck (tg 40)), (some 47), none, 9, []⟩,
  ⟨CI.pure (pIaddrA 5 6 (tg 47) (cv (.int .i64 3))), (some 48), none, 10, []⟩,
  ⟨CI.mem 3 (mStore 6 (tg 48) (tg 43)), none, none, 11, []⟩,
  ⟨CI.pure (pNilck (tg 41)), (some 49), none, 12, []⟩,
  ⟨CI.pure (pIaddrA 5 6 (tg 49) (cv (.int .i64 4))), (some 50), none, 13, []⟩,
  ⟨CI.mem 3 (mStore 6 (tg 50) (tg 44)), none, none, 14, []⟩]
@[simp] def oa2_9_ap := das_rule (c := oa2_9) rfl
def oa2_10 : List IS := [ip 52 (pMov (tg 0)),
  ip 53 (pBin .leq (tg 52) (cv (.int .i64 11))),
  ip 51 (pMov (tg 53))]
@[simp] def oa2_10_ap := ops_rule (c := oa2_10) rfl
def oa2_11 : List DA := [⟨CI.pure (pMov (tg 4)), (some 54), none, 0, []⟩,
  ⟨CI.pure (pMov (tg 4)), (some 55), none, 1, []⟩,
  ⟨CI.pure (pMov (tg 4)), (some 56), none, 2, []⟩,
  ⟨CI.mem 3 (mCall 66 [(cv (.int .i64 0))]), (some 57), none, 3, []⟩,
  ⟨CI.mem 3 (mCall 66 [(cv (.int .i64 5))]), (some 58), none, 4, []⟩,
  ⟨CI.mem 3 (mCall 66 [(cv (.int .i64 16))]), (some 59), none, 5, []⟩,
  ⟨CI.pure (pNilck (tg 54)), (some 60), none, 6, []⟩,
  ⟨CI.pure (pIaddrA 5 6 (tg 60) (cv (.int .i64 0))), (some 61), none, 7, []⟩,
  ⟨CI.mem 3 (mStore 6 (tg 61) (tg 57)), none, none, 8, []⟩,
  ⟨CI.pure (pNilck (tg 55)), (some 62), none, 9, []⟩,
  ⟨CI.pure (pIaddrA 5 6 (tg 62) (cv (.int .i64 1))), (some 63), none, 10, []⟩,
  ⟨CI.mem 3 (mStore 6 (tg 63) (tg 58)), none, none, 11, []⟩,
  ⟨CI.pure (pNilck (tg 56)), (some 64), none, 12, []⟩,
  ⟨CI.pure (pIaddrA 5 6 (tg 64) (cv (.int .i64 2))), (some 65), none, 13, []⟩,
  ⟨CI.mem 3 (mStore 6 (tg 65) (tg 59)), none, none, 14, []⟩]
@[simp] def oa2_11_ap := das_rule (c := oa2_11) rfl
def oa2_12 : List IS := [ip 67 (pMov (tg 0)),
  ip 68 (pBin .leq (tg 67) (cv (.int .i64 13))),
  ip 66 (pMov (tg 68))]
@[simp] def oa2_12_ap := ops_rule (c := oa2_12) rfl
def oa2_13 : List DA := [⟨CI.pure (pMov (tg 4)), (some 69), none, 0, []⟩,
  ⟨CI.pure (pMov (tg 4)), (some 70), none, 1, []⟩,
  ⟨CI.pure (pMov (tg 4)), (some 71), none, 2, []⟩,
  ⟨CI.mem 3 (mCall 68 [(cv (.int .i64 0))]), (some 72), none, 3, []⟩,
  ⟨CI.mem 3 (mCall 68 [(cv (.int .i64 5))]), (some 73), none, 4, []⟩,
  ⟨CI.mem 3 (mCall 67 [(cv (.int .i64 10)), (cv (.int .i64 12)), (cv (.int .i64 4095)), (cv (.int .i64 1))]), (some 74), none, 5, []⟩,
  ⟨CI.pure (pNilck (tg 69)), (some 75), none, 6, []⟩,
  ⟨CI.pure (pIaddrA 5 6 (tg 75) (cv (.int .i64 0))), (some 76), none, 7, []⟩,
  ⟨CI.mem 3 (mStore 6 (tg 76) (tg 72)), none, none, 8, []⟩,
  ⟨CI.pure (pNilck (tg 70)), (some 77), none, 9, []⟩,
  ⟨CI.pure (pIaddrA 5 6 (tg 77) (cv (.int .i64 1))), (some 78), none, 10, []⟩,
  ⟨CI.mem 3 (mStore 6 (tg 78) (tg 73)), none, none, 11, []⟩,
  ⟨CI.pure (pNilck (tg 71)), (some 79), none, 12, []⟩,
  ⟨CI.pure (pIaddrA 5 6 (tg 79) (cv (.int .i64 3))), (some 80), none, 13, []⟩,
  ⟨CI.mem 3 (mStore 6 (tg 80) (tg 74)), none, none, 14, []⟩]
@[simp] def oa2_13_ap := das_rule (c := oa2_13) rfl
def oa2_14 : List IS := [ip 82 (pMov (tg 0)),
  ip 83 (pBin .eql (tg 82) (cv (.int .i64 14))),
  ip 81 (pMov (tg 83))]
@[simp] def oa2_14_ap := ops_rule (c := oa2_14) rfl
def oa2_15 : List DA := [⟨CI.pure (pMov (tg 4)), (some 84), none, 0, []⟩,
  ⟨CI.pure (pMov (tg 4)), (some 85), none, 1, []⟩,
  ⟨CI.pure (pMov (tg 4)), (some 86), none, 2, []⟩,
  ⟨CI.mem 3 (mCall 66 [(cv (.int .i64 0))]), (some 87), none, 3, []⟩,
  ⟨CI.mem 3 (mCall 66 [(cv (.int .i64 5))]), (some 88), none, 4, []⟩,
  ⟨CI.mem 3 (mCall 67 [(cv (.int .i64 0)), (cv (.int .i64 0)), (cv (.int .i64 63)), (cv (.int .i64 1))]), (some 89), none, 5, []⟩,
  ⟨CI.pure (pNilck (tg 84)), (some 90), none, 6, []⟩,
  ⟨CI.pure (pIaddrA 5 6 (tg 90) (cv (.int .i64 0))), (some 91), none, 7, []⟩,
  ⟨CI.mem 3 (mStore 6 (tg 91) (tg 87)), none, none, 8, []⟩,
  ⟨CI.pure (pNilck (tg 85)), (some 92), none, 9, []⟩,
  ⟨CI.pure (pIaddrA 5 6 (tg 92) (cv (.int .i64 1))), (some 93), none, 10, []⟩,
  ⟨CI.mem 3 (mStore 6 (tg 93) (tg 88)), none, none, 11, []⟩,
  ⟨CI.pure (pNilck (tg 86)), (some 94), none, 12, []⟩,
  ⟨CI.pure (pIaddrA 5 6 (tg 94) (cv (.int .i64 3))), (some 95), none, 13, []⟩,
  ⟨CI.mem 3 (mStore 6 (tg 95) (tg 89)), none, none, 14, []⟩]
@[simp] def oa2_15_ap := das_rule (c := oa2_15) rfl
def oa2_16 : List IS := [ip 97 (pMov (tg 0)),
  ip 98 (pBin .eql (tg 97) (cv (.int .i64 15))),
  ip 96 (pMov (tg 98))]
@[simp] def oa2_16_ap := ops_rule (c := oa2_16) rfl
def oa2_17 : List DA := [⟨CI.pure (pMov (tg 4)), (some 99), none, 0, []⟩,
  ⟨CI.pure (pMov (tg 4)), (some 100), none, 1, []⟩,
  ⟨CI.pure (pMov (tg 4)), (some 101), none, 2, []⟩,
  ⟨CI.mem 3 (mCall 66 [(cv (.int .i64 0))]), (some 102), none, 3, []⟩,
  ⟨CI.mem 3 (mCall 66 [(cv (.int .i64 5))]), (some 103), none, 4, []⟩,
  ⟨CI.mem 3 (mCall 67 [(cv (.int .i64 16)), (cv (.int .i64 6)), (cv (.int .i64 63)), (cv (.int .i64 1))]), (some 104), none, 5, []⟩,
  ⟨CI.pure (pNilck (tg 99)), (some 105), none, 6, []⟩,
  ⟨CI.pure (pIaddrA 5 6 (tg 105) (cv (.int .i64 0))), (some 106), none, 7, []⟩,
  ⟨CI.mem 3 (mStore 6 (tg 106) (tg 102)), none, none, 8, []⟩,
  ⟨CI.pure (pNilck (tg 100)), (some 107), none, 9, []⟩,
  ⟨CI.pure (pIaddrA 5 6 (tg 107) (cv (.int .i64 1))), (some 108), none, 10, []⟩,
  ⟨CI.mem 3 (mStore 6 (tg 108) (tg 103)), none, none, 11, []⟩,
  ⟨CI.pure (pNilck (tg 101)), (some 109), none, 12, []⟩,
  ⟨CI.pure (pIaddrA 5 6 (tg 109) (cv (.int .i64 3))), (some 110), none, 13, []⟩,
  ⟨CI.mem 3 (mStore 6 (tg 110) (tg 104)), none, none, 14, []⟩]
@[simp] def oa2_17_ap := das_rule (c := oa2_17) rfl
def oa2_18 : List IS := [ip 112 (pMov (tg 0)),
  ip 113 (pBin .eql (tg 112) (cv (.int .i64 16))),
  ip 111 (pMov (tg 113))]
@[simp] def oa2_18_ap := ops_rule (c := oa2_18) rfl
def oa2_19 : List DA := [⟨CI.pure (pMov (tg 4)), (some 114), none, 0, []⟩,
  ⟨CI.pure (pMov (tg 4)), (some 115), none, 1, []⟩,
  ⟨CI.mem 3 (mCall 66 [(cv (.int .i64 5))]), (some 116), none, 2, []⟩,
  ⟨CI.mem 3 (mCall 66 [(cv (.int .i64 16))]), (some 117), none, 3, []⟩,
  ⟨CI.pure (pNilck (tg 114)), (some 118), none, 4, []⟩,
  ⟨CI.pure (pIaddrA 5 6 (tg 118) (cv (.int .i64 1))), (some 119), none, 5, []⟩,
  ⟨CI.mem 3 (mStore 6 (tg 119) (tg 116)), none, none, 6, []⟩,
  ⟨CI.pure (pNilck (tg 115)), (some 120), none, 7, []⟩,
  ⟨CI.pure (pIaddrA 5 6 (tg 120) (cv (.int .i64 2))), (some 121), none, 8, []⟩,
  ⟨CI.mem 3 (mStore 6 (tg 121) (tg 117)), none, none, 9, []⟩]
@[simp] def oa2_19_ap := das_rule (c := oa2_19) rfl
def oa2_20 : List IS := [ip 123 (pMov (tg 0)),
  ip 124 (pBin .eql (tg 123) (cv (.int .i64 17))),
  ip 122 (pMov (tg 124))]
@[simp] def oa2_20_ap := ops_rule (c := oa2_20) rfl
def oa2_21 : List DA := [⟨CI.pure (pMov (tg 4)), (some 125), none, 0, []⟩,
  ⟨CI.pure (pMov (tg 4)), (some 126), none, 1, []⟩,
  ⟨CI.mem 3 (mCall 66 [(cv (.int .i64 0))]), (some 127), none, 2, []⟩,
  ⟨CI.pure (pBuild [(.int .i64 0), (.int .i64 0), (.int .i64 0), (.int .i64 0), (.int .i64 0), (.bool false)] [(0, 1, (cv (.int .i64 12))), (1, 1, (cv (.int .i64 4))), (3, 1, (cv (.int .i64 13))), (4, 1, (cv (.int .i64 1))), (5, 1, (cv (.bool true)))]), (some 128), none, 3, []⟩,
  ⟨CI.pure (pNilck (tg 125)), (some 129), none, 4, []⟩,
  ⟨CI.pure (pIaddrA 5 6 (tg 129) (cv (.int .i64 0))), (some 130), none, 5, []⟩,
  ⟨CI.mem 3 (mStore 6 (tg 130) (tg 127)), none, none, 6, []⟩,
  ⟨CI.pure (pNilck (tg 126)), (some 131), none, 7, []⟩,
  ⟨CI.pure (pIaddrA 5 6 (tg 131) (cv (.int .i64 4))), (some 132), none, 8, []⟩,
  ⟨CI.mem 3 (mStore 6 (tg 132) (tg 128)), none, none, 9, []⟩]
@[simp] def oa2_21_ap := das_rule (c := oa2_21) rfl
def oa2_22 : List IS := [ip 134 (pMov (tg 0)),
  ip 135 (pBin .eql (tg 134) (cv (.int .i64 18))),
  ip 133 (pMov (tg 135))]
@[simp] def oa2_22_ap := ops_rule (c := oa2_22) rfl
def oa2_23 : List DA := [⟨CI.pure (pMov (tg 4)), (some 136), none, 0, []⟩,
  ⟨CI.mem 3 (mCall 69 [(cv (.int .i64 0)), (cv (.int .i64 26))]), (some 137), none, 1, []⟩,
  ⟨CI.pure (pNilck (tg 136)), (some 138), none, 2, []⟩,
  ⟨CI.pure (pIaddrA 5 6 (tg 138) (cv (.int .i64 3))), (some 139), none, 3, []⟩,
  ⟨CI.mem 3 (mStore 6 (tg 139) (tg 137)), none, none, 4, []⟩]
@[simp] def oa2_23_ap := das_rule (c := oa2_23) rfl
def oa2_24 : List IS := [ip 141 (pMov (tg 0)),
  ip 142 (pBin .eql (tg 141) (cv (.int .i64 19))),
  ip 140 (pMov (tg 142))]
@[simp] def oa2_24_ap := ops_rule (c := oa2_24) rfl
def oa2_25 : List DA := [⟨CI.pure (pMov (tg 4)), (some 143), none, 0, []⟩,
  ⟨CI.pure (pMov (tg 4)), (some 144), none, 1, []⟩,
  ⟨CI.mem 3 (mCall 69 [(cv (.int .i64 5)), (cv (.int .i64 19))]), (some 145), none, 2, []⟩,
  ⟨CI.mem 3 (mCall 67 [(cv (.int .i64 0)), (cv (.int .i64 4)), (cv (.int .i64 13)), (cv (.int .i64 1))]), (some 146), none, 3, []⟩,
  ⟨CI.pure (pNilck (tg 143)), (some 147), none, 4, []⟩,
  ⟨CI.pure (pIaddrA 5 6 (tg 147) (cv (.int .i64 3))), (some 148), none, 5, []⟩,
  ⟨CI.mem 3 (mStore 6 (tg 148) (tg 145)), none, none, 6, []⟩,
  ⟨CI.pure (pNilck (tg 144)), (some 149), none, 7, []⟩,
  ⟨CI.pure (pIaddrA 5 6 (tg 149) (cv (.int .i64 4))), (some 150), none, 8, []⟩,
  ⟨CI.mem 3 (mStore 6 (tg 150) (tg 146)), none, none, 9, []⟩]
@[simp] def oa2_25_ap := das_rule (c := oa2_25) rfl
def oa2_26 : List IS := [ip 152 (pMov (tg 0)),
  ip 153 (pBin .leq (tg 152) (cv (.int .i64 21))),
  ip 151 (pMov (tg 153))]
@[simp] def oa2_26_ap := ops_rule (c := oa2_26) rfl
def oa2_27 : List DA := [⟨CI.pure (pMov (tg 4)), (some 154), none, 0, []⟩,
  ⟨CI.pure (pMov (tg 4)), (some 155), none, 1, []⟩,
  ⟨CI.mem 3 (mCall 66 [(cv (.int .i64 0))]), (some 156), none, 2, []⟩,
  ⟨CI.mem 3 (mCall 69 [(cv (.int .i64 5)), (cv (.int .i64 19))]), (some 157), none, 3, []⟩,
  ⟨CI.pure (pNilck (tg 154)), (some 158), none, 4, []⟩,
  ⟨CI.pure (pIaddrA 5 6 (tg 158) (cv (.int .i64 0))), (some 159), none, 5, []⟩,
  ⟨CI.mem 3 (mStore 6 (tg 159) (tg 156)), none, none, 6, []⟩,
  ⟨CI.pure (pNilck (tg 155)), (some 160), none, 7, []⟩,
  ⟨CI.pure (pIaddrA 5 6 (tg 160) (cv (.int .i64 3))), (some 161), none, 8, []⟩,
  ⟨CI.mem 3 (mStore 6 (tg 161) (tg 157)), none, none, 9, []⟩]
@[simp] def oa2_27_ap := das_rule (c := oa2_27) rfl
def oa2_28 : List IS := [ip 163 (pMov (tg 0)),
  ip 164 (pBin .leq (tg 163) (cv (.int .i64 23))),
  ip 162 (pMov (tg 164))]
@[simp] def oa2_28_ap := ops_rule (c := oa2_28) rfl
def oa2_29 : List DA := [⟨CI.pure (pMov (tg 4)), (some 165), none, 0, []⟩,
  ⟨CI.pure (pMov (tg 4)), (some 166), none, 1, []⟩,
  ⟨CI.pure (pMov (tg 4)), (some 167), none, 2, []⟩,
  ⟨CI.mem 3 (mCall 66 [(cv (.int .i64 0))]), (some 168), none, 3, []⟩,
  ⟨CI.mem 3 (mCall 68 [(cv (.int .i64 5))]), (some 169), none, 4, []⟩,
  ⟨CI.mem 3 (mCall 67 [(cv (.int .i64 10)), (cv (.int .i64 12)), (cv (.int .i64 32760)), (cv (.int .i64 8))]), (some 170), none, 5, []⟩,
  ⟨CI.pure (pNilck (tg 165)), (some 171), none, 6, []⟩,
  ⟨CI.pure (pIaddrA 5 6 (tg 171) (cv (.int .i64 0))), (some 172), none, 7, []⟩,
  ⟨CI.mem 3 (mStore 6 (tg 172) (tg 168)), none, none, 8, []⟩,
  ⟨CI.pure (pNilck (tg 166)), (some 173), none, 9, []⟩,
  ⟨CI.pure (pIaddrA 5 6 (tg 173) (cv (.int .i64 1))), (some 174), none, 10, []⟩,
  ⟨CI.mem 3 (mStore 6 (tg 174) (tg 169)), none, none, 11, []⟩,
  ⟨CI.pure (pNilck (tg 167)), (some 175), none, 12, []⟩,
  ⟨CI.pure (pIaddrA 5 6 (tg 175) (cv (.int .i64 3))), (some 176), none, 13, []⟩,
  ⟨CI.mem 3 (mStore 6 (tg 176) (tg 170)), none, none, 14, []⟩]
@[simp] def oa2_29_ap := das_rule (c := oa2_29) rfl
def oa2_30 : List IS := [ip 178 (pMov (tg 0)),
  ip 179 (pBin .leq (tg 178) (cv (.int .i64 27))),
  ip 180 (pMov (tg 179)),
  gd 180 false (some 181) (ip 181 (pMov (tg 0))),
  gd 180 false (some 182) (ip 182 (pBin .eql (tg 181) (cv (.int .i64 35)))),
  ip 183 (pPick (tg 180) (cv (.bool true)) (tg 182)),
  ip 177 (pMov (tg 183))]
@[simp] def oa2_30_ap := ops_rule (c := oa2_30) rfl
def oa2_31 : List DA := [⟨CI.pure (pMov (tg 4)), (some 184), none, 0, []⟩,
  ⟨CI.pure (pMov (tg 4)), (some 185), none, 1, []⟩,
  ⟨CI.mem 3 (mCall 66 [(cv (.int .i64 0))]), (some 186), none, 2, []⟩,
  ⟨CI.mem 3 (mCall 68 [(cv (.int .i64 5))]), (some 187), none, 3, []⟩,
  ⟨CI.pure (pNilck (tg 184)), (some 188), none, 4, []⟩,
  ⟨CI.pure (pIaddrA 5 6 (tg 188) (cv (.int .i64 0))), (some 189), none, 5, []⟩,
  ⟨CI.mem 3 (mStore 6 (tg 189) (tg 186)), none, none, 6, []⟩,
  ⟨CI.pure (pNilck (tg 185)), (some 190), none, 7, []⟩,
  ⟨CI.pure (pIaddrA 5 6 (tg 190) (cv (.int .i64 1))), (some 191), none, 8, []⟩,
  ⟨CI.mem 3 (mStore 6 (tg 191) (tg 187)), none, none, 9, []⟩]
@[simp] def oa2_31_ap := das_rule (c := oa2_31) rfl
def oa2_32 : List IS := [ip 193 (pMov (tg 0)),
  ip 194 (pBin .leq (tg 193) (cv (.int .i64 29))),
  ip 192 (pMov (tg 194))]
@[simp] def oa2_32_ap := ops_rule (c := oa2_32) rfl
def oa2_33 : List DA := [⟨CI.pure (pMov (tg 4)), (some 195), none, 0, []⟩,
  ⟨CI.pure (pMov (tg 4)), (some 196), none, 1, []⟩,
  ⟨CI.pure (pMov (tg 4)), (some 197), none, 2, []⟩,
  ⟨CI.mem 3 (mCall 66 [(cv (.int .i64 0))]), (some 198), none, 3, []⟩,
  ⟨CI.mem 3 (mCall 68 [(cv (.int .i64 5))]), (some 199), none, 4, []⟩,
  ⟨CI.mem 3 (mCall 68 [(cv (.int .i64 16))]), (some 200), none, 5, []⟩,
  ⟨CI.pure (pNilck (tg 195)), (some 201), none, 6, []⟩,
  ⟨CI.pure (pIaddrA 5 6 (tg 201) (cv (.int .i64 0))), (some 202), none, 7, []⟩,
  ⟨CI.mem 3 (mStore 6 (tg 202) (tg 198)), none, none, 8, []⟩,
  ⟨CI.pure (pNilck (tg 196)), (some 203), none, 9, []⟩,
  ⟨CI.pure (pIaddrA 5 6 (tg 203) (cv (.int .i64 1))), (some 204), none, 10, []⟩,
  ⟨CI.mem 3 (mStore 6 (tg 204) (tg 199)), none, none, 11, []⟩,
  ⟨CI.pure (pNilck (tg 197)), (some 205), none, 12, []⟩,
  ⟨CI.pure (pIaddrA 5 6 (tg 205) (cv (.int .i64 2))), (some 206), none, 13, []⟩,
  ⟨CI.mem 3 (mStore 6 (tg 206) (tg 200)), none, none, 14, []⟩]
@[simp] def oa2_33_ap := das_rule (c := oa2_33) rfl
def oa2_34 : List IS := [ip 208 (pMov (tg 0)),
  ip 209 (pBin .eql (tg 208) (cv (.int .i64 33))),
  ip 207 (pMov (tg 209))]
@[simp] def oa2_34_ap := ops_rule (c := oa2_34) rfl
def oa2_35 : List DA := [⟨CI.pure (pMov (tg 4)), (some 210), none, 0, []⟩,
  ⟨CI.mem 3 (mCall 67 [(cv (.int .i64 5)), (cv (.int .i64 16)), (cv (.int .i64 30)), (cv (.int .i64 1))]), (some 211), none, 1, []⟩,
  ⟨CI.pure (pNilck (tg 210)), (some 212), none, 2, []⟩,
  ⟨CI.pure (pIaddrA 5 6 (tg 212) (cv (.int .i64 3))), (some 213), none, 3, []⟩,
  ⟨CI.mem 3 (mStore 6 (tg 213) (tg 211)), none, none, 4, []⟩]
@[simp] def oa2_35_ap := das_rule (c := oa2_35) rfl
def oa2_36 : List IS := [ip 215 (pMov (tg 0)),
  ip 216 (pBin .leq (tg 215) (cv (.int .i64 39))),
  ip 214 (pMov (tg 216))]
@[simp] def oa2_36_ap := ops_rule (c := oa2_36) rfl
def oa2_37 : List DA := [⟨CI.pure (pMov (tg 4)), (some 217), none, 0, []⟩,
  ⟨CI.pure (pMov (tg 4)), (some 218), none, 1, []⟩,
  ⟨CI.pure (pMov (tg 4)), (some 219), none, 2, []⟩,
  ⟨CI.mem 3 (mCall 66 [(cv (.int .i64 0))]), (some 220), none, 3, []⟩,
  ⟨CI.mem 3 (mCall 68 [(cv (.int .i64 5))]), (some 221), none, 4, []⟩,
  ⟨CI.mem 3 (mCall 68 [(cv (.int .i64 16))]), (some 222), none, 5, []⟩,
  ⟨CI.pure (pNilck (tg 217)), (some 223), none, 6, []⟩,
  ⟨CI.pure (pIaddrA 5 6 (tg 223) (cv (.int .i64 0))), (some 224), none, 7, []⟩,
  ⟨CI.mem 3 (mStore 6 (tg 224) (tg 220)), none, none, 8, []⟩,
  ⟨CI.pure (pNilck (tg 218)), (some 225), none, 9, []⟩,
  ⟨CI.pure (pIaddrA 5 6 (tg 225) (cv (.int .i64 1))), (some 226), none, 10, []⟩,
  ⟨CI.mem 3 (mStore 6 (tg 226) (tg 221)), none, none, 11, []⟩,
  ⟨CI.pure (pNilck (tg 219)), (some 227), none, 12, []⟩,
  ⟨CI.pure (pIaddrA 5 6 (tg 227) (cv (.int .i64 2))), (some 228), none, 13, []⟩,
  ⟨CI.mem 3 (mStore 6 (tg 228) (tg 222)), none, none, 14, []⟩]
@[simp] def oa2_37_ap := das_rule (c := oa2_37) rfl
def oa2_38 : List DA := [⟨CI.pure (pMov (tg 4)), (some 16), none, 0, []⟩,
  ⟨CI.pure (pMov (tg 4)), (some 17), none, 1, []⟩,
  ⟨CI.pure (pMov (tg 4)), (some 18), none, 2, []⟩,
  ⟨CI.mem 3 (mCall 68 [(cv (.int .i64 0))]), (some 19), none, 3, []⟩,
  ⟨CI.mem 3 (mCall 68 [(cv (.int .i64 5))]), (some 20), none, 4, []⟩,
  ⟨CI.mem 3 (mCall 66 [(cv (.int .i64 16))]), (some 21), none, 5, []⟩,
  ⟨CI.pure (pNilck (tg 16)), (some 22), none, 6, []⟩,
  ⟨CI.pure (pIaddrA 5 6 (tg 22) (cv (.int .i64 0))), (some 23), none, 7, []⟩,
  ⟨CI.mem 3 (mStore 6 (tg 23) (tg 19)), none, none, 8, []⟩,
  ⟨CI.pure (pNilck (tg 17)), (some 24), none, 9, []⟩,
  ⟨CI.pure (pIaddrA 5 6 (tg 24) (cv (.int .i64 1))), (some 25), none, 10, []⟩,
  ⟨CI.mem 3 (mStore 6 (tg 25) (tg 20)), none, none, 11, []⟩,
  ⟨CI.pure (pNilck (tg 18)), (some 26), none, 12, []⟩,
  ⟨CI.pure (pIaddrA 5 6 (tg 26) (cv (.int .i64 2))), (some 27), none, 13, []⟩,
  ⟨CI.mem 3 (mStore 6 (tg 27) (tg 21)), none, none, 14, []⟩]
@[simp] def oa2_38_ap := das_rule (c := oa2_38) rfl
def ca2_4 : SC := sCond (tg 214) (sAny oa2_37) (sAny oa2_38)
@[simp] def ca2_4_ap := cond_rule (c := ca2_4) rfl
def ca2_5 : SC := sSeq (sReg (seqI oa2_36)) ca2_4
@[simp] def ca2_5_ap := seq_rule (c := ca2_5) rfl
def ca2_6 : SC := sCond (tg 207) (sAny oa2_35) ca2_5
@[simp] def ca2_6_ap := cond_rule (c := ca2_6) rfl
def ca2_7 : SC := sSeq (sReg (seqI oa2_34)) ca2_6
@[simp] def ca2_7_ap := seq_rule (c := ca2_7) rfl
def ca2_8 : SC := sCond (tg 192) (sAny oa2_33) ca2_7
@[simp] def ca2_8_ap := cond_rule (c := ca2_8) rfl
def ca2_9 : SC := sSeq (sReg (seqI oa2_32)) ca2_8
@[simp] def ca2_9_ap := seq_rule (c := ca2_9) rfl
def ca2_10 : SC := sCond (tg 177) (sAny oa2_31) ca2_9
@[simp] def ca2_10_ap := cond_rule (c := ca2_10) rfl
def ca2_11 : SC := sSeq (sReg (seqI oa2_30)) ca2_10
@[simp] def ca2_11_ap := seq_rule (c := ca2_11) rfl
def ca2_12 : SC := sCond (tg 162) (sAny oa2_29) ca2_11
@[simp] def ca2_12_ap := cond_rule (c := ca2_12) rfl
def ca2_13 : SC := sSeq (sReg (seqI oa2_28)) ca2_12
@[simp] def ca2_13_ap := seq_rule (c := ca2_13) rfl
def ca2_14 : SC := sCond (tg 151) (sAny oa2_27) ca2_13
@[simp] def ca2_14_ap := cond_rule (c := ca2_14) rfl
def ca2_15 : SC := sSeq (sReg (seqI oa2_26)) ca2_14
@[simp] def ca2_15_ap := seq_rule (c := ca2_15) rfl
def ca2_16 : SC := sCond (tg 140) (sAny oa2_25) ca2_15
@[simp] def ca2_16_ap := cond_rule (c := ca2_16) rfl
def ca2_17 : SC := sSeq (sReg (seqI oa2_24)) ca2_16
@[simp] def ca2_17_ap := seq_rule (c := ca2_17) rfl
def ca2_18 : SC := sCond (tg 133) (sAny oa2_23) ca2_17
@[simp] def ca2_18_ap := cond_rule (c := ca2_18) rfl
def ca2_19 : SC := sSeq (sReg (seqI oa2_22)) ca2_18
@[simp] def ca2_19_ap := seq_rule (c := ca2_19) rfl
def ca2_20 : SC := sCond (tg 122) (sAny oa2_21) ca2_19
@[simp] def ca2_20_ap := cond_rule (c := ca2_20) rfl
def ca2_21 : SC := sSeq (sReg (seqI oa2_20)) ca2_20
@[simp] def ca2_21_ap := seq_rule (c := ca2_21) rfl
def ca2_22 : SC := sCond (tg 111) (sAny oa2_19) ca2_21
@[simp] def ca2_22_ap := cond_rule (c := ca2_22) rfl
def ca2_23 : SC := sSeq (sReg (seqI oa2_18)) ca2_22
@[simp] def ca2_23_ap := seq_rule (c := ca2_23) rfl
def ca2_24 : SC := sCond (tg 96) (sAny oa2_17) ca2_23
@[simp] def ca2_24_ap := cond_rule (c := ca2_24) rfl
def ca2_25 : SC := sSeq (sReg (seqI oa2_16)) ca2_24
@[simp] def ca2_25_ap := seq_rule (c := ca2_25) rfl
def ca2_26 : SC := sCond (tg 81) (sAny oa2_15) ca2_25
@[simp] def ca2_26_ap := cond_rule (c := ca2_26) rfl
def ca2_27 : SC := sSeq (sReg (seqI oa2_14)) ca2_26
@[simp] def ca2_27_ap := seq_rule (c := ca2_27) rfl
def ca2_28 : SC := sCond (tg 66) (sAny oa2_13) ca2_27
@[simp] def ca2_28_ap := cond_rule (c := ca2_28) rfl
def ca2_29 : SC := sSeq (sReg (seqI oa2_12)) ca2_28
@[simp] def ca2_29_ap := seq_rule (c := ca2_29) rfl
def ca2_30 : SC := sCond (tg 51) (sAny oa2_11) ca2_29
@[simp] def ca2_30_ap := cond_rule (c := ca2_30) rfl
def ca2_31 : SC := sSeq (sReg (seqI oa2_10)) ca2_30
@[simp] def ca2_31_ap := seq_rule (c := ca2_31) rfl
def ca2_32 : SC := sCond (tg 36) (sAny oa2_9) ca2_31
@[simp] def ca2_32_ap := cond_rule (c := ca2_32) rfl
def ca2_33 : SC := sSeq (sReg (seqI oa2_8)) ca2_32
@[simp] def ca2_33_ap := seq_rule (c := ca2_33) rfl
def ca2_34 : SC := sCond (tg 28) (sReg (seqI oa2_7)) ca2_33
@[simp] def ca2_34_ap := cond_rule (c := ca2_34) rfl
def ca2_35 : SC := sSeq (sReg (seqI oa2_6)) ca2_34
@[simp] def ca2_35_ap := seq_rule (c := ca2_35) rfl
def ca2_36 : SC := sBlock 0 ca2_35
@[simp] def ca2_36_ap := block_rule (c := ca2_36) rfl
def oa2_39 : List IS := [il 229 (tg 2) (mLoadN 31 (tg 2)),
  im0 3 (mStore 31 (tg 2) (tg 229)),
  ip 3 (pMov (cv (.bool true)))]
@[simp] def oa2_39_ap := ops_rule (c := oa2_39) rfl
def ca2_37 : SC := sSeq (sReg (seqI oa2_39)) sRet
@[simp] def ca2_37_ap := seq_rule (c := ca2_37) rfl
def ca2_38 : SC := sSeq ca2_36 ca2_37
@[simp] def ca2_38_ap := seq_rule (c := ca2_38) rfl
def ca2_39 : SC := sSeq (sReg (seqI oa2_5)) ca2_38
@[simp] def ca2_39_ap := seq_rule (c := ca2_39) rfl
def ca2_40 : SC := sSeq (sReg (seqI oa2_4)) ca2_39
@[simp] def ca2_40_ap := seq_rule (c := ca2_40) rfl
def ca2_41 : SC := sSeq ca2_3 ca2_40
@[simp] def ca2_41_ap := seq_rule (c := ca2_41) rfl
def ca2_42 : SC := sSeq (sReg (seqI oa2_1)) ca2_41
@[simp] def ca2_42_ap := seq_rule (c := ca2_42) rfl
def da2 : DFn := ⟨ca2_42, 230, [.cell 2 31, .t 3]⟩
theorem da2_ok : fnOf Try.prog 49 = some da2 := by kernel_rfl
def oa3_1 : List IS := [im 1 3 (mBox (tg 0)),
  im 1 6 (mAlloc [(.int .i64 0), (.int .i64 0), (.int .i64 0), (.int .i64 0), (.int .i64 0), (.int .i64 0)])]
@[simp] def oa3_1_ap := ops_rule (c := oa3_1) rfl
def oa3_2 : List IS := [im 1 7 (mAlloc [(.int .i64 0), (.int .i64 0), (.int .i64 0), (.int .i64 0), (.int .i64 0)])]
@[simp] def oa3_2_ap := ops_rule (c := oa3_2) rfl
def oa3_3 : List IS := [ip 10 (pFaddr 1 (tg 3)),
  il 11 (tg 10) (mLoadN 30 (tg 10)),
  ip 12 (pMov (cv (.int .i64 0)))]
@[simp] def oa3_3_ap := ops_rule (c := oa3_3) rfl
def oa3_4 : List IS := [ip 13 (pBin .lss (tg 12) (cv (.int .i64 5)))]
@[simp] def oa3_4_ap := ops_rule (c := oa3_4) rfl
def ca3_1 : SC := sCond (tg 13) sSkip (sExit 0)
@[simp] def ca3_1_ap := cond_rule (c := ca3_1) rfl
def oa3_5 : List IS := [ip 14 (pMov (tg 12)),
  ip 15 (pIdx 5 true 6 (tg 11) (tg 12)),
  im 1 9 (mAlloc [(.int .i64 0), (.int .i64 0), (.int .i64 0), (.int .i64 0), (.int .i64 0), (.bool false)]),
  ip 8 (pMov (tg 14)),
  im0 3 (mStore 6 (tg 9) (tg 15))]
@[simp] def oa3_5_ap := ops_rule (c := oa3_5) rfl
def oa3_6 : List IS := [ip 16 (pMov (tg 8)),
  il 17 (tg 9) (mLoadN 6 (tg 9)),
  ip 18 (pMov (tg 2)),
  im 3 19 (mCall 70 [(tg 17), (tg 18)]),
  ip 20 (pIaddrA 5 1 (tg 7) (tg 16)),
  im0 3 (mStore 1 (tg 20) (tg 19))]
@[simp] def oa3_6_ap := ops_rule (c := oa3_6) rfl
def ca3_2 : SC := sSeq (sReg (seqI oa3_5)) (sReg (seqI oa3_6))
@[simp] def ca3_2_ap := seq_rule (c := ca3_2) rfl
def ca3_3 : SC := sBlock 1 ca3_2
@[simp] def ca3_3_ap := block_rule (c := ca3_3) rfl
def oa3_7 : List IS := [ip 21 (pBin .add (tg 12) (cv (.int .i64 1))),
  ip 12 (pMov (tg 21))]
@[simp] def oa3_7_ap := ops_rule (c := oa3_7) rfl
def ca3_4 : SC := sSeq ca3_3 (sReg (seqI oa3_7))
@[simp] def ca3_4_ap := seq_rule (c := ca3_4) rfl
def ca3_5 : SC := sSeq ca3_1 ca3_4
@[simp] def ca3_5_ap := seq_rule (c := ca3_5) rfl
def ca3_6 : SC := sSeq (sReg (seqI oa3_4)) ca3_5
@[simp] def ca3_6_ap := seq_rule (c := ca3_6) rfl
def ca3_7 : SC := sLoop ca3_6
def ca3_8 : SC := sBlock 0 ca3_7
@[simp] def ca3_8_ap := block_rule (c := ca3_8) rfl
def ca3_9 : SC := sSeq (sReg (seqI oa3_3)) ca3_8
@[simp] def ca3_9_ap := seq_rule (c := ca3_9) rfl
def oa3_8 : List IS := [ip 22 (pMov (tg 1)),
  ip 23 (pBin .eql (tg 22) (cv (.int .i64 14)))]
@[simp] def oa3_8_ap := ops_rule (c := oa3_8) rfl
def oa3_9 : List IS := [ip 24 (pMov (tg 2)),
  ip 25 (pShift .shr (tg 24) (cv (.int .u64 10))),
  ip 26 (pBin .and (tg 25) (cv (.int .u32 63))),
  ip 27 (pConvI .i64 (tg 26)),
  ip 28 (pBin .sub (cv (.int .i64 63)) (tg 27)),
  ip 29 (pIaddrA 5 1 (tg 7) (cv (.int .i64 3))),
  im0 3 (mStore 1 (tg 29) (tg 28))]
@[simp] def oa3_9_ap := ops_rule (c := oa3_9) rfl
def ca3_10 : SC := sCond (tg 23) (sReg (seqI oa3_9)) sSkip
@[simp] def ca3_10_ap := cond_rule (c := ca3_10) rfl
def ca3_11 : SC := sSeq (sReg (seqI oa3_8)) ca3_10
@[simp] def ca3_11_ap := seq_rule (c := ca3_11) rfl
def oa3_10 : List IS := [ip 30 (pMov (tg 1)),
  ip 31 (pIaddrA 5 1 (tg 7) (cv (.int .i64 0))),
  il 32 (tg 31) (mLoad1 (tg 31)),
  ip 33 (pIaddrA 5 1 (tg 7) (cv (.int .i64 1))),
  il 34 (tg 33) (mLoad1 (tg 33)),
  ip 35 (pIaddrA 5 1 (tg 7) (cv (.int .i64 2))),
  il 36 (tg 35) (mLoad1 (tg 35)),
  ip 37 (pIaddrA 5 1 (tg 7) (cv (.int .i64 3))),
  il 38 (tg 37) (mLoad1 (tg 37)),
  ip 39 (pIaddrA 5 1 (tg 7) (cv (.int .i64 4))),
  il 40 (tg 39) (mLoad1 (tg 39)),
  ip 41 (pBuild [(.int .i64 0), (.int .i64 0), (.int .i64 0), (.int .i64 0), (.int .i64 0), (.int .i64 0)] [(0, 1, (tg 30)), (1, 1, (tg 32)), (2, 1, (tg 34)), (3, 1, (tg 36)), (4, 1, (tg 38)), (5, 1, (tg 40))]),
  im0 3 (mStore 6 (tg 6) (tg 41))]
@[simp] def oa3_10_ap := ops_rule (c := oa3_10) rfl
def ca3_12 : SC := sSeq (sReg (seqI oa3_10)) sRet
@[simp] def ca3_12_ap := seq_rule (c := ca3_12) rfl
def ca3_13 : SC := sSeq ca3_11 ca3_12
@[simp] def ca3_13_ap := seq_rule (c := ca3_13) rfl
def ca3_14 : SC := sSeq ca3_9 ca3_13
@[simp] def ca3_14_ap := seq_rule (c := ca3_14) rfl
def ca3_15 : SC := sSeq (sReg (seqI oa3_2)) ca3_14
@[simp] def ca3_15_ap := seq_rule (c := ca3_15) rfl
def ca3_16 : SC := sSeq (sReg (seqI oa3_1)) ca3_15
@[simp] def ca3_16_ap := seq_rule (c := ca3_16) rfl
def da3 : DFn := ⟨ca3_16, 42, [.cell 6 6]⟩
theorem da3_ok : fnOf Try.prog 50 = some da3 := by kernel_rfl
def oa4_1 : List IS := [im 1 2 (mBox (tg 0)),
  im 1 3 (mBox (tg 1)),
  ip 4 (pMov (cv (.bool false)))]
@[simp] def oa4_1_ap := ops_rule (c := oa4_1) rfl
def oa4_2 : List IS := [il 7 (tg 3) (mLoadN 6 (tg 3)),
  im 3 8 (mCall 71 [(tg 7)]),
  ip 9 (pMov (cv (.int .i64 0)))]
@[simp] def oa4_2_ap := ops_rule (c := oa4_2) rfl
def oa4_3 : List IS := [ip 10 (pBin .lss (tg 9) (cv (.int .i64 5)))]
@[simp] def oa4_3_ap := ops_rule (c := oa4_3) rfl
def ca4_1 : SC := sCond (tg 10) sSkip (sExit 0)
@[simp] def ca4_1_ap := cond_rule (c := ca4_1) rfl
def oa4_4 : List IS := [ip 11 (pMov (tg 9)),
  ip 12 (pIdx 5 false 1 (tg 8) (tg 9)),
  ip 5 (pMov (tg 11)),
  ip 6 (pMov (tg 12))]
@[simp] def oa4_4_ap := ops_rule (c := oa4_4) rfl
def oa4_5 : List IS := [ip 13 (pMov (tg 5)),
  ip 14 (pFaddr 1 (tg 2)),
  ip 15 (pIaddrA 5 6 (tg 14) (tg 13)),
  il 16 (tg 15) (mLoadN 6 (tg 15)),
  ip 17 (pMov (tg 6)),
  im 3 18 (mCall 72 [(tg 16), (tg 17)]),
  ip 19 (pUn .not (tg 18))]
@[simp] def oa4_5_ap := ops_rule (c := oa4_5) rfl
def oa4_6 : List IS := [ip 4 (pMov (cv (.bool false)))]
@[simp] def oa4_6_ap := ops_rule (c := oa4_6) rfl
def ca4_2 : SC := sSeq (sReg (seqI oa4_6)) sRet
@[simp] def ca4_2_ap := seq_rule (c := ca4_2) rfl
def ca4_3 : SC := sCond (tg 19) ca4_2 sSkip
@[simp] def ca4_3_ap := cond_rule (c := ca4_3) rfl
def ca4_4 : SC := sSeq (sReg (seqI oa4_5)) ca4_3
@[simp] def ca4_4_ap := seq_rule (c := ca4_4) rfl
def ca4_5 : SC := sSeq (sReg (seqI oa4_4)) ca4_4
@[simp] def ca4_5_ap := seq_rule (c := ca4_5) rfl
def ca4_6 : SC := sBlock 1 ca4_5
@[simp] def ca4_6_ap := block_rule (c := ca4_6) rfl
def oa4_7 : List IS := [ip 20 (pBin .add (tg 9) (cv (.int .i64 1))),
  ip 9 (pMov (tg 20))]
@[simp] def oa4_7_ap := ops_rule (c := oa4_7) rfl
def ca4_7 : SC := sSeq ca4_6 (sReg (seqI oa4_7))
@[simp] def ca4_7_ap := seq_rule (c := ca4_7) rfl
def ca4_8 : SC := sSeq ca4_1 ca4_7
@[simp] def ca4_8_ap := seq_rule (c := ca4_8) rfl
def ca4_9 : SC := sSeq (sReg (seqI oa4_3)) ca4_8
@[simp] def ca4_9_ap := seq_rule (c := ca4_9) rfl
def ca4_10 : SC := sLoop ca4_9
def ca4_11 : SC := sBlock 0 ca4_10
@[simp] def ca4_11_ap := block_rule (c := ca4_11) rfl
def ca4_12 : SC := sSeq (sReg (seqI oa4_2)) ca4_11
@[simp] def ca4_12_ap := seq_rule (c := ca4_12) rfl
def oa4_8 : List IS := [ip 21 (pFaddr 0 (tg 3)),
  il 22 (tg 21) (mLoad1 (tg 21))]
@[simp] def oa4_8_ap := ops_rule (c := oa4_8) rfl
def oa4_9 : List IS := [ip 24 (pBin .eql (tg 22) (cv (.int .i64 14))),
  ip 23 (pMov (tg 24))]
@[simp] def oa4_9_ap := ops_rule (c := oa4_9) rfl
def oa4_10 : List IS := [ip 25 (pFaddr 4 (tg 3)),
  il 26 (tg 25) (mLoad1 (tg 25)),
  ip 27 (pBin .geq (tg 26) (cv (.int .i64 1))),
  ip 4 (pMov (tg 27))]
@[simp] def oa4_10_ap := ops_rule (c := oa4_10) rfl
def ca4_13 : SC := sSeq (sReg (seqI oa4_10)) sRet
@[simp] def ca4_13_ap := seq_rule (c := ca4_13) rfl
def oa4_11 : List IS := [ip 29 (pBin .eql (tg 22) (cv (.int .i64 28))),
  ip 28 (pMov (tg 29))]
@[simp] def oa4_11_ap := ops_rule (c := oa4_11) rfl
def oa4_12 : List IS := [ip 30 (pBin .eql (tg 22) (cv (.int .i64 29))),
  ip 28 (pMov (tg 30))]
@[simp] def oa4_12_ap := ops_rule (c := oa4_12) rfl
def ca4_14 : SC := sCond (tg 28) sSkip (sReg (seqI oa4_12))
@[simp] def ca4_14_ap := cond_rule (c := ca4_14) rfl
def ca4_15 : SC := sSeq (sReg (seqI oa4_11)) ca4_14
@[simp] def ca4_15_ap := seq_rule (c := ca4_15) rfl
def oa4_13 : List IS := [ip 31 (pFaddr 3 (tg 3)),
  il 32 (tg 31) (mLoad1 (tg 31)),
  ip 33 (pFaddr 1 (tg 3)),
  il 34 (tg 33) (mLoad1 (tg 33)),
  ip 35 (pBin .neq (tg 32) (tg 34)),
  ip 36 (pMov (tg 35)),
  gd 36 true (some 37) (ip 37 (pFaddr 3 (tg 3))),
  gd 36 true (some 38) (il 38 (tg 37) (mLoad1 (tg 37))),
  gd 36 true (some 39) (ip 39 (pFaddr 2 (tg 3))),
  gd 36 true (some 40) (il 40 (tg 39) (mLoad1 (tg 39))),
  gd 36 true (some 41) (ip 41 (pBin .neq (tg 38) (tg 40))),
  ip 42 (pPick (tg 36) (tg 41) (cv (.bool false))),
  ip 4 (pMov (tg 42))]
@[simp] def oa4_13_ap := ops_rule (c := oa4_13) rfl
def ca4_16 : SC := sSeq (sReg (seqI oa4_13)) sRet
@[simp] def ca4_16_ap := seq_rule (c := ca4_16) rfl
def ca4_17 : SC := sCond (tg 28) ca4_16 sSkip
@[simp] def ca4_17_ap := cond_rule (c := ca4_17) rfl
def ca4_18 : SC := sSeq ca4_15 ca4_17
@[simp] def ca4_18_ap := seq_rule (c := ca4_18) rfl
def ca4_19 : SC := sCond (tg 23) ca4_13 ca4_18
@[simp] def ca4_19_ap := cond_rule (c := ca4_19) rfl
def ca4_20 : SC := sSeq (sReg (seqI oa4_9)) ca4_19
@[simp] def ca4_20_ap := seq_rule (c := ca4_20) rfl
def ca4_21 : SC := sBlock 2 ca4_20
@[simp] def ca4_21_ap := block_rule (c := ca4_21) rfl
def ca4_22 : SC := sSeq (sReg (seqI oa4_8)) ca4_21
@[simp] def ca4_22_ap := seq_rule (c := ca4_22) rfl
def oa4_14 : List IS := [ip 4 (pMov (cv (.bool true)))]
@[simp] def oa4_14_ap := ops_rule (c := oa4_14) rfl
def ca4_23 : SC := sSeq (sReg (seqI oa4_14)) sRet
@[simp] def ca4_23_ap := seq_rule (c := ca4_23) rfl
def ca4_24 : SC := sSeq ca4_22 ca4_23
@[simp] def ca4_24_ap := seq_rule (c := ca4_24) rfl
def ca4_25 : SC := sSeq ca4_12 ca4_24
@[simp] def ca4_25_ap := seq_rule (c := ca4_25) rfl
def ca4_26 : SC := sSeq (sReg (seqI oa4_1)) ca4_25
@[simp] def ca4_26_ap := seq_rule (c := ca4_26) rfl
def da4 : DFn := ⟨ca4_26, 43, [.t 4]⟩
theorem da4_ok : fnOf Try.prog 51 = some da4 := by kernel_rfl
def oa5_1 : List IS := [im 1 2 (mBox (tg 0)),
  im 1 3 (mBox (tg 1)),
  ip 4 (pMov (cv (.int .u32 0)))]
@[simp] def oa5_1_ap := ops_rule (c := oa5_1) rfl
def oa5_2 : List IS := [ip 8 (pFaddr 0 (tg 2)),
  il 9 (tg 8) (mLoad1 (tg 8)),
  ip 5 (pMov (tg 9))]
@[simp] def oa5_2_ap := ops_rule (c := oa5_2) rfl
def oa5_3 : List IS := [il 10 (tg 3) (mLoadN 6 (tg 3)),
  im 3 11 (mCall 71 [(tg 10)]),
  ip 12 (pMov (cv (.int .i64 0)))]
@[simp] def oa5_3_ap := ops_rule (c := oa5_3) rfl
def oa5_4 : List IS := [ip 13 (pBin .lss (tg 12) (cv (.int .i64 5)))]
@[simp] def oa5_4_ap := ops_rule (c := oa5_4) rfl
def ca5_1 : SC := sCond (tg 13) sSkip (sExit 0)
@[simp] def ca5_1_ap := cond_rule (c := ca5_1) rfl
def oa5_5 : List IS := [ip 14 (pMov (tg 12)),
  ip 15 (pIdx 5 false 1 (tg 11) (tg 12)),
  ip 6 (pMov (tg 14)),
  ip 7 (pMov (tg 15))]
@[simp] def oa5_5_ap := ops_rule (c := oa5_5) rfl
def oa5_6 : List IS := [ip 16 (pMov (tg 5)),
  ip 17 (pMov (tg 6)),
  ip 18 (pFaddr 1 (tg 2)),
  ip 19 (pIaddrA 5 6 (tg 18) (tg 17)),
  il 20 (tg 19) (mLoadN 6 (tg 19)),
  ip 21 (pMov (tg 7)),
  im 3 22 (mCall 73 [(tg 20), (tg 21)]),
  ip 23 (pBin .or (tg 16) (tg 22)),
  ip 5 (pMov (tg 23))]
@[simp] def oa5_6_ap := ops_rule (c := oa5_6) rfl
def ca5_2 : SC := sSeq (sReg (seqI oa5_5)) (sReg (seqI oa5_6))
@[simp] def ca5_2_ap := seq_rule (c := ca5_2) rfl
def ca5_3 : SC := sBlock 1 ca5_2
@[simp] def ca5_3_ap := block_rule (c := ca5_3) rfl
def oa5_7 : List IS := [ip 24 (pBin .add (tg 12) (cv (.int .i64 1))),
  ip 12 (pMov (tg 24))]
@[simp] def oa5_7_ap := ops_rule (c := oa5_7) rfl
def ca5_4 : SC := sSeq ca5_3 (sReg (seqI oa5_7))
@[simp] def ca5_4_ap := seq_rule (c := ca5_4) rfl
def ca5_5 : SC := sSeq ca5_1 ca5_4
@[simp] def ca5_5_ap := seq_rule (c := ca5_5) rfl
def ca5_6 : SC := sSeq (sReg (seqI oa5_4)) ca5_5
@[simp] def ca5_6_ap := seq_rule (c := ca5_6) rfl
def ca5_7 : SC := sLoop ca5_6
def ca5_8 : SC := sBlock 0 ca5_7
@[simp] def ca5_8_ap := block_rule (c := ca5_8) rfl
def ca5_9 : SC := sSeq (sReg (seqI oa5_3)) ca5_8
@[simp] def ca5_9_ap := seq_rule (c := ca5_9) rfl
def oa5_8 : List IS := [ip 25 (pFaddr 0 (tg 3)),
  il 26 (tg 25) (mLoad1 (tg 25)),
  ip 27 (pBin .eql (tg 26) (cv (.int .i64 14)))]
@[simp] def oa5_8_ap := ops_rule (c := oa5_8) rfl
def oa5_9 : List IS := [ip 28 (pMov (tg 5)),
  ip 29 (pFaddr 4 (tg 3)),
  il 30 (tg 29) (mLoad1 (tg 29)),
  ip 31 (pBin .sub (cv (.int .i64 64)) (tg 30)),
  ip 32 (pConvI .u32 (tg 31)),
  ip 33 (pShift .shl (tg 32) (cv (.int .u64 16))),
  ip 34 (pFaddr 4 (tg 3)),
  il 35 (tg 34) (mLoad1 (tg 34)),
  ip 36 (pBin .sub (cv (.int .i64 63)) (tg 35)),
  ip 37 (pConvI .u32 (tg 36)),
  ip 38 (pShift .shl (tg 37) (cv (.int .u64 10))),
  ip 39 (pBin .or (tg 33) (tg 38)),
  ip 40 (pBin .or (tg 28) (tg 39)),
  ip 5 (pMov (tg 40))]
@[simp] def oa5_9_ap := ops_rule (c := oa5_9) rfl
def ca5_10 : SC := sCond (tg 27) (sReg (seqI oa5_9)) sSkip
@[simp] def ca5_10_ap := cond_rule (c := ca5_10) rfl
def ca5_11 : SC := sSeq (sReg (seqI oa5_8)) ca5_10
@[simp] def ca5_11_ap := seq_rule (c := ca5_11) rfl
def oa5_10 : List IS := [ip 41 (pMov (tg 5)),
  ip 4 (pMov (tg 41))]
@[simp] def oa5_10_ap := ops_rule (c := oa5_10) rfl
def ca5_12 : SC := sSeq (sReg (seqI oa5_10)) sRet
@[simp] def ca5_12_ap := seq_rule (c := ca5_12) rfl
def ca5_13 : SC := sSeq ca5_11 ca5_12
@[simp] def ca5_13_ap := seq_rule (c := ca5_13) rfl
def ca5_14 : SC := sSeq ca5_9 ca5_13
@[simp] def ca5_14_ap := seq_rule (c := ca5_14) rfl
def ca5_15 : SC := sSeq (sReg (seqI oa5_2)) ca5_14
@[simp] def ca5_15_ap := seq_rule (c := ca5_15) rfl
def ca5_16 : SC := sSeq (sReg (seqI oa5_1)) ca5_15
@[simp] def ca5_16_ap := seq_rule (c := ca5_16) rfl
def da5 : DFn := ⟨ca5_16, 42, [.t 4]⟩
theorem da5_ok : fnOf Try.prog 52 = some da5 := by kernel_rfl
def oa6_1 : List IS := [ip 2 (pMov (cv (.int .u32 0)))]
@[simp] def oa6_1_ap := ops_rule (c := oa6_1) rfl
def oa6_2 : List IS := [ip 3 (pBuild [(.int .u32 0), (.int .u32 0), (.int .u32 0), (.int .u32 0), (.int .u32 0), (.int .u32 0), (.int .u32 0), (.int .u32 0), (.int .u32 0), (.int .u32 0), (.int .u32 0), (.int .u32 0), (.int .u32 0), (.int .u32 0), (.int .u32 0), (.int .u32 0), (.int .u32 0), (.int .u32 0), (.int .u32 0), (.int .u32 0), (.int .u32 0), (.int .u32 0), (.int .u32 0), (.int .u32 0), (.int .u32 0), (.int .u32 0), (.int .u32 0), (.int .u32 0), (.int .u32 0), (.int .u32 0), (.int .u32 0), (.int .u32 0), (.int .u32 0), (.int .u32 0), (.int .u32 0), (.int .u32 0), (.int .u32 0), (.int .u32 0), (.int .u32 0), (.int .u32 0), (.int .u32 0), (.int .u32 0), (.int .u32 0), (.int .u32 0), (.int .u32 0), (.int .u32 0), (.int .u32 0), (.int .u32 0)] [(0, 1, (cv (.int .u32 0))), (1, 1, (cv (.int .u32 3531603968))), (2, 1, (cv (.int .u32 4068474880))), (3, 1, (cv (.int .u32 2332033024))), (4, 1, (cv (.int .u32 3405774848))), (5, 1, (cv (.int .u32 2315255808))), (6, 1, (cv (.int .u32 2852126720))), (7, 1, (cv (.int .u32 3388997632))), (8, 1, (cv (.int .u32 2854223872))), (9, 1, (cv (.int .u32 2600500224))), (10, 1, (cv (.int .u32 2596282368))), (11, 1, (cv (.int .u32 2596283392))), (12, 1, (cv (.int .u32 2432696320))), (13, 1, (cv (.int .u32 3506438144))), (14, 1, (cv (.int .u32 3544186880))), (15, 1, (cv (.int .u32 3544251392))), (16, 1, (cv (.int .u32 3942645791))), (17, 1, (cv (.int .u32 2594113504))), (18, 1, (cv (.int .u32 335544320))), (19, 1, (cv (.int .u32 1409286144))), (20, 1, (cv (.int .u32 3019898880))), (21, 1, (cv (.int .u32 3036676096))), (22, 1, (cv (.int .u32 4181721088))), (23, 1, (cv (.int .u32 4177526784))), (24, 1, (cv (.int .u32 3370122240))), (25, 1, (cv (.int .u32 3365927936))), (26, 1, (cv (.int .u32 3361700864))), (27, 1, (cv (.int .u32 3361733632))), (28, 1, (cv (.int .u32 3355474944))), (29, 1, (cv (.int .u32 3355507712))), (30, 1, (cv (.int .u32 0))), (31, 1, (cv (.int .u32 0))), (32, 1, (cv (.int .u32 0))), (33, 1, (cv (.int .u32 3556769793))), (34, 1, (cv (.int .u32 0))), (35, 1, (cv (.int .u32 4173316096))), (36, 1, (cv (.int .u32 3365960704))), (37, 1, (cv (.int .u32 3370155008))), (38, 1, (cv (.int .u32 3365993472))), (39, 1, (cv (.int .u32 3370187776))), (40, 1, (cv (.int .u32 4162879488))), (41, 1, (cv (.int .u32 4171268096))), (42, 1, (cv (.int .u32 4167073792))), (43, 1, (cv (.int .u32 4175462400))), (44, 1, (cv (.int .u32 4162846720))), (45, 1, (cv (.int .u32 4171235328))), (46, 1, (cv (.int .u32 4167041024))), (47, 1, (cv (.int .u32 4175429632)))]),
  ip 4 (pMov (tg 0)),
  ip 5 (pIdx 48 false 1 (tg 3) (tg 4)),
  ip 2 (pMov (tg 5))]
@[simp] def oa6_2_ap := ops_rule (c := oa6_2) rfl
def ca6_1 : SC := sSeq (sReg (seqI oa6_2)) sRet
@[simp] def ca6_1_ap := seq_rule (c := ca6_1) rfl
def ca6_2 : SC := sSeq (sReg (seqI oa6_1)) ca6_1
@[simp] def ca6_2_ap := seq_rule (c := ca6_2) rfl
def da6 : DFn := ⟨ca6_2, 6, [.t 2]⟩
theorem da6_ok : fnOf Try.prog 65 = some da6 := by kernel_rfl
def oa7_1 : List IS := [im 1 2 (mAlloc [(.int .i64 0), (.int .i64 0), (.int .i64 0), (.int .i64 0), (.int .i64 0), (.bool false)])]
@[simp] def oa7_1_ap := ops_rule (c := oa7_1) rfl
def oa7_2 : List IS := [ip 3 (pMov (tg 0)),
  ip 4 (pBuild [(.int .i64 0), (.int .i64 0), (.int .i64 0), (.int .i64 0), (.int .i64 0), (.bool false)] [(0, 1, (tg 3)), (1, 1, (cv (.int .i64 5))), (3, 1, (cv (.int .i64 31))), (4, 1, (cv (.int .i64 1)))]),
  im0 3 (mStore 6 (tg 2) (tg 4))]
@[simp] def oa7_2_ap := ops_rule (c := oa7_2) rfl
def ca7_1 : SC := sSeq (sReg (seqI oa7_2)) sRet
@[simp] def ca7_1_ap := seq_rule (c := ca7_1) rfl
def ca7_2 : SC := sSeq (sReg (seqI oa7_1)) ca7_1
@[simp] def ca7_2_ap := seq_rule (c := ca7_2) rfl
def da7 : DFn := ⟨ca7_2, 5, [.cell 2 6]⟩
theorem da7_ok : fnOf Try.prog 66 = some da7 := by kernel_rfl
def oa8_1 : List IS := [im 1 8 (mAlloc [(.int .i64 0), (.int .i64 0), (.int .i64 0), (.int .i64 0), (.int .i64 0), (.bool false)])]
@[simp] def oa8_1_ap := ops_rule (c := oa8_1) rfl
def oa8_2 : List IS := [ip 9 (pMov (tg 0)),
  ip 10 (pMov (tg 1)),
  ip 11 (pMov (tg 2)),
  ip 12 (pMov (tg 3)),
  ip 13 (pBuild [(.int .i64 0), (.int .i64 0), (.int .i64 0), (.int .i64 0), (.int .i64 0), (.bool false)] [(0, 1, (tg 9)), (1, 1, (tg 10)), (3, 1, (tg 11)), (4, 1, (tg 12))]),
  im0 3 (mStore 6 (tg 8) (tg 13))]
@[simp] def oa8_2_ap := ops_rule (c := oa8_2) rfl
def ca8_1 : SC := sSeq (sReg (seqI oa8_2)) sRet
@[simp] def ca8_1_ap := seq_rule (c := ca8_1) rfl
def ca8_2 : SC := sSeq (sReg (seqI oa8_1)) ca8_1
@[simp] def ca8_2_ap := seq_rule (c := ca8_2) rfl
def da8 : DFn := ⟨ca8_2, 14, [.cell 8 6]⟩
theorem da8_ok : fnOf Try.prog 67 = some da8 := by kernel_rfl
def oa9_1 : List IS := [im 1 2 (mAlloc [(.int .i64 0), (.int .i64 0), (.int .i64 0), (.int .i64 0), (.int .i64 0), (.bool false)])]
@[simp] def oa9_1_ap := ops_rule (c := oa9_1) rfl
def oa9_2 : List IS := [ip 3 (pMov (tg 0)),
  ip 4 (pBuild [(.int .i64 0), (.int .i64 0), (.int .i64 0), (.int .i64 0), (.int .i64 0), (.bool false)] [(0, 1, (tg 3)), (1, 1, (cv (.int .i64 5))), (3, 1, (cv (.int .i64 30))), (4, 1, (cv (.int .i64 1)))]),
  im0 3 (mStore 6 (tg 2) (tg 4))]
@[simp] def oa9_2_ap := ops_rule (c := oa9_2) rfl
def ca9_1 : SC := sSeq (sReg (seqI oa9_2)) sRet
@[simp] def ca9_1_ap := seq_rule (c := ca9_1) rfl
def ca9_2 : SC := sSeq (sReg (seqI oa9_1)) ca9_1
@[simp] def ca9_2_ap := seq_rule (c := ca9_2) rfl
def da9 : DFn := ⟨ca9_2, 5, [.cell 2 6]⟩
theorem da9_ok : fnOf Try.prog 68 = some da9 := by kernel_rfl
def ob0_1 : List IS := [im 1 4 (mAlloc [(.int .i64 0), (.int .i64 0), (.int .i64 0), (.int .i64 0), (.int .i64 0), (.bool false)])]
@[simp] def ob0_1_ap := ops_rule (c := ob0_1) rfl
def ob0_2 : List DA := [⟨CI.pure (pMov (tg 0)), (some 5), none, 0, []⟩,
  ⟨CI.pure (pMov (tg 1)), (some 6), none, 1, []⟩,
  ⟨CI.pure (pMov (tg 1)), (some 7), none, 2, []⟩,
  ⟨CI.pure (pBin .sub (tg 7) (cv (.int .i64 1))), (some 8), none, 3, []⟩,
  ⟨CI.pure (pShift .shl (cv (.int .i64 (-1))) (tg 8)), (some 9), none, 4, []⟩,
  ⟨CI.pure (pMov (tg 1)), (some 10), none, 5, []⟩,
  ⟨CI.pure (pBin .sub (tg 10) (cv (.int .i64 1))), (some 11), none, 6, []⟩,
  ⟨CI.pure (pShift .shl (cv (.int .i64 1)) (tg 11)), (some 12), none, 7, []⟩,
  ⟨CI.pure (pBin .sub (tg 12) (cv (.int .i64 1))), (some 13), none, 8, []⟩,
  ⟨CI.pure (pBuild [(.int .i64 0), (.int .i64 0), (.int .i64 0), (.int .i64 0), (.int .i64 0), (.bool false)] [(0, 1, (tg 5)), (1, 1, (tg 6)), (2, 1, (tg 9)), (3, 1, (tg 13)), (4, 1, (cv (.int .i64 1)))]), (some 14), none, 9, []⟩,
  ⟨CI.mem 3 (mStore 6 (tg 4) (tg 14)), none, none, 10, []⟩]
@[simp] def ob0_2_ap := das_rule (c := ob0_2) rfl
def cb0_1 : SC := sSeq (sAny ob0_2) sRet
@[simp] def cb0_1_ap := seq_rule (c := cb0_1) rfl
def cb0_2 : SC := sSeq (sReg (seqI ob0_1)) cb0_1
@[simp] def cb0_2_ap := seq_rule (c := cb0_2) rfl
def db0 : DFn := ⟨cb0_2, 15, [.cell 4 6]⟩
theorem db0_ok : fnOf Try.prog 69 = some db0 := by kernel_rfl
def ob1_1 : List IS := [im 1 2 (mBox (tg 0)),
  ip 4 (pMov (cv (.int .i64 0)))]
@[simp] def ob1_1_ap := ops_rule (c := ob1_1) rfl
def ob1_2 : List IS := [ip 6 (pFaddr 1 (tg 2)),
  il 7 (tg 6) (mLoad1 (tg 6)),
  ip 8 (pBin .eql (tg 7) (cv (.int .i64 0)))]
@[simp] def ob1_2_ap := ops_rule (c := ob1_2) rfl
def ob1_3 : List IS := [ip 4 (pMov (cv (.int .i64 0)))]
@[simp] def ob1_3_ap := ops_rule (c := ob1_3) rfl
def cb1_1 : SC := sSeq (sReg (seqI ob1_3)) sRet
@[simp] def cb1_1_ap := seq_rule (c := cb1_1) rfl
def cb1_2 : SC := sCond (tg 8) cb1_1 sSkip
@[simp] def cb1_2_ap := cond_rule (c := cb1_2) rfl
def cb1_3 : SC := sSeq (sReg (seqI ob1_2)) cb1_2
@[simp] def cb1_3_ap := seq_rule (c := cb1_3) rfl
def ob1_4 : List DA := [⟨CI.pure (pMov (tg 1)), (some 9), none, 0, []⟩,
  ⟨CI.pure (pFaddr 0 (tg 2)), (some 10), none, 1, []⟩,
  ⟨CI.load (tg 10) (mLoad1 (tg 10)), (some 11), none, 2, []⟩,
  ⟨CI.pure (pShift .shr (tg 9) (tg 11)), (some 12), none, 3, []⟩,
  ⟨CI.pure (pFaddr 1 (tg 2)), (some 13), none, 4, []⟩,
  ⟨CI.load (tg 13) (mLoad1 (tg 13)), (some 14), none, 5, []⟩,
  ⟨CI.pure (pShift .shl (cv (.int .u32 1)) (tg 14)), (some 15), none, 6, []⟩,
  ⟨CI.pure (pBin .sub (tg 15) (cv (.int .u32 1))), (some 16), none, 7, []⟩,
  ⟨CI.pure (pBin .and (tg 12) (tg 16)), (some 17), none, 8, []⟩,
  ⟨CI.pure (pConvI .i64 (tg 17)), (some 18), none, 9, []⟩,
  ⟨CI.pure (pMov (tg 18)), (some 5), none, 10, []⟩]
@[simp] def ob1_4_ap := das_rule (c := ob1_4) rfl
def ob1_5 : List IS := [ip 19 (pFaddr 5 (tg 2)),
  il 20 (tg 19) (mLoad1 (tg 19))]
@[simp] def ob1_5_ap := ops_rule (c := ob1_5) rfl
def ob1_6 : List IS := [ip 21 (pMov (tg 5)),
  ip 22 (pBin .xor (tg 21) (cv (.int .i64 1))),
  ip 5 (pMov (tg 22))]
@[simp] def ob1_6_ap := ops_rule (c := ob1_6) rfl
def cb1_4 : SC := sCond (tg 20) (sReg (seqI ob1_6)) sSkip
@[simp] def cb1_4_ap := cond_rule (c := cb1_4) rfl
def cb1_5 : SC := sSeq (sReg (seqI ob1_5)) cb1_4
@[simp] def cb1_5_ap := seq_rule (c := cb1_5) rfl
def ob1_7 : List IS := [ip 23 (pFaddr 2 (tg 2)),
  il 24 (tg 23) (mLoad1 (tg 23)),
  ip 25 (pBin .lss (tg 24) (cv (.int .i64 0))),
  ip 26 (pMov (tg 25)),
  gd 26 true (some 27) (ip 27 (pMov (tg 5))),
  gd 26 true (some 28) (ip 28 (pFaddr 1 (tg 2))),
  gd 26 true (some 29) (il 29 (tg 28) (mLoad1 (tg 28))),
  gd 26 true (some 30) (ip 30 (pBin .sub (tg 29) (cv (.int .i64 1)))),
  gd 26 true (some 31) (ip 31 (pShift .shl (cv (.int .i64 1)) (tg 30))),
  gd 26 true (some 32) (ip 32 (pBin .geq (tg 27) (tg 31))),
  ip 33 (pPick (tg 26) (tg 32) (cv (.bool false)))]
@[simp] def ob1_7_ap := ops_rule (c := ob1_7) rfl
def ob1_8 : List IS := [ip 34 (pMov (tg 5)),
  ip 35 (pFaddr 1 (tg 2)),
  il 36 (tg 35) (mLoad1 (tg 35)),
  ip 37 (pShift .shl (cv (.int .i64 1)) (tg 36)),
  ip 38 (pBin .sub (tg 34) (tg 37)),
  ip 5 (pMov (tg 38))]
@[simp] def ob1_8_ap := ops_rule (c := ob1_8) rfl
def cb1_6 : SC := sCond (tg 33) (sReg (seqI ob1_8)) sSkip
@[simp] def cb1_6_ap := cond_rule (c := cb1_6) rfl
def cb1_7 : SC := sSeq (sReg (seqI ob1_7)) cb1_6
@[simp] def cb1_7_ap := seq_rule (c := cb1_7) rfl
def ob1_9 : List IS := [ip 39 (pMov (tg 5)),
  ip 40 (pFaddr 4 (tg 2)),
  il 41 (tg 40) (mLoad1 (tg 40)),
  ip 42 (pBin .mul (tg 39) (tg 41)),
  ip 4 (pMov (tg 42))]
@[simp] def ob1_9_ap := ops_rule (c := ob1_9) rfl
def cb1_8 : SC := sSeq (sReg (seqI ob1_9)) sRet
@[simp] def cb1_8_ap := seq_rule (c := cb1_8) rfl
def cb1_9 : SC := sSeq cb1_7 cb1_8
@[simp] def cb1_9_ap := seq_rule (c := cb1_9) rfl
def cb1_10 : SC := sSeq cb1_5 cb1_9
@[simp] def cb1_10_ap := seq_rule (c := cb1_10) rfl
def cb1_11 : SC := sSeq (sAny ob1_4) cb1_10
@[simp] def cb1_11_ap := seq_rule (c := cb1_11) rfl
def cb1_12 : SC := sSeq cb1_3 cb1_11
@[simp] def cb1_12_ap := seq_rule (c := cb1_12) rfl
def cb1_13 : SC := sSeq (sReg (seqI ob1_1)) cb1_12
@[simp] def cb1_13_ap := seq_rule (c := cb1_13) rfl
def db1 : DFn := ⟨cb1_13, 43, [.t 4]⟩
theorem db1_ok : fnOf Try.prog 70 = some db1 := by kernel_rfl
def ob2_1 : List IS := [im 1 1 (mBox (tg 0)),
  im 1 2 (mAlloc [(.int .i64 0), (.int .i64 0), (.int .i64 0), (.int .i64 0), (.int .i64 0)])]
@[simp] def ob2_1_ap := ops_rule (c := ob2_1) rfl
def ob2_2 : List IS := [ip 3 (pFaddr 1 (tg 1)),
  il 4 (tg 3) (mLoad1 (tg 3)),
  ip 5 (pFaddr 2 (tg 1)),
  il 6 (tg 5) (mLoad1 (tg 5)),
  ip 7 (pFaddr 3 (tg 1)),
  il 8 (tg 7) (mLoad1 (tg 7)),
  ip 9 (pFaddr 4 (tg 1)),
  il 10 (tg 9) (mLoad1 (tg 9)),
  ip 11 (pFaddr 5 (tg 1)),
  il 12 (tg 11) (mLoad1 (tg 11)),
  ip 13 (pBuild [(.int .i64 0), (.int .i64 0), (.int .i64 0), (.int .i64 0), (.int .i64 0)] [(0, 1, (tg 4)), (1, 1, (tg 6)), (2, 1, (tg 8)), (3, 1, (tg 10)), (4, 1, (tg 12))]),
  im0 3 (mStore 5 (tg 2) (tg 13))]
@[simp] def ob2_2_ap := ops_rule (c := ob2_2) rfl
def cb2_1 : SC := sSeq (sReg (seqI ob2_2)) sRet
@[simp] def cb2_1_ap := seq_rule (c := cb2_1) rfl
def cb2_2 : SC := sSeq (sReg (seqI ob2_1)) cb2_1
@[simp] def cb2_2_ap := seq_rule (c := cb2_2) rfl
def db2 : DFn := ⟨cb2_2, 14, [.cell 2 5]⟩
theorem db2_ok : fnOf Try.prog 71 = some db2 := by kernel_rfl
def ob3_1 : List IS := [im 1 2 (mBox (tg 0)),
  ip 4 (pMov (cv (.bool false)))]
@[simp] def ob3_1_ap := ops_rule (c := ob3_1) rfl
def ob3_2 : List IS := [ip 5 (pFaddr 4 (tg 2)),
  il 6 (tg 5) (mLoad1 (tg 5)),
  ip 7 (pBin .eql (tg 6) (cv (.int .i64 0)))]
@[simp] def ob3_2_ap := ops_rule (c := ob3_2) rfl
def ob3_3 : List IS := [ip 8 (pMov (tg 1)),
  ip 9 (pBin .eql (tg 8) (cv (.int .i64 0))),
  ip 4 (pMov (tg 9))]
@[simp] def ob3_3_ap := ops_rule (c := ob3_3) rfl
def cb3_1 : SC := sSeq (sReg (seqI ob3_3)) sRet
@[simp] def cb3_1_ap := seq_rule (c := cb3_1) rfl
def cb3_2 : SC := sCond (tg 7) cb3_1 sSkip
@[simp] def cb3_2_ap := cond_rule (c := cb3_2) rfl
def cb3_3 : SC := sSeq (sReg (seqI ob3_2)) cb3_2
@[simp] def cb3_3_ap := seq_rule (c := cb3_3) rfl
def ob3_4 : List IS := [ip 10 (pMov (tg 1)),
  ip 11 (pFaddr 2 (tg 2)),
  il 12 (tg 11) (mLoad1 (tg 11)),
  ip 13 (pBin .geq (tg 10) (tg 12)),
  ip 14 (pMov (tg 13)),
  gd 14 true (some 15) (ip 15 (pMov (tg 1))),
  gd 14 true (some 16) (ip 16 (pFaddr 3 (tg 2))),
  gd 14 true (some 17) (il 17 (tg 16) (mLoad1 (tg 16))),
  gd 14 true (some 18) (ip 18 (pBin .leq (tg 15) (tg 17))),
  ip 19 (pPick (tg 14) (tg 18) (cv (.bool false))),
  ip 20 (pMov (tg 19)),
  gd 20 true (some 21) (ip 21 (pMov (tg 1))),
  gd 20 true (some 22) (ip 22 (pFaddr 4 (tg 2))),
  gd 20 true (some 23) (il 23 (tg 22) (mLoad1 (tg 22))),
  gd 20 true (some 24) (ip 24 (pBin .rem (tg 21) (tg 23))),
  gd 20 true (some 25) (ip 25 (pBin .eql (tg 24) (cv (.int .i64 0)))),
  ip 26 (pPick (tg 20) (tg 25) (cv (.bool false))),
  ip 4 (pMov (tg 26))]
@[simp] def ob3_4_ap := ops_rule (c := ob3_4) rfl
def cb3_4 : SC := sSeq (sReg (seqI ob3_4)) sRet
@[simp] def cb3_4_ap := seq_rule (c := cb3_4) rfl
def cb3_5 : SC := sSeq cb3_3 cb3_4
@[simp] def cb3_5_ap := seq_rule (c := cb3_5) rfl
def cb3_6 : SC := sSeq (sReg (seqI ob3_1)) cb3_5
@[simp] def cb3_6_ap := seq_rule (c := cb3_6) rfl
def db3 : DFn := ⟨cb3_6, 27, [.t 4]⟩
theorem db3_ok : fnOf Try.prog 72 = some db3 := by kernel_rfl
def ob4_1 : List IS := [im 1 2 (mBox (tg 0)),
  ip 4 (pMov (cv (.int .u32 0)))]
@[simp] def ob4_1_ap := ops_rule (c := ob4_1) rfl
def ob4_2 : List IS := [ip 6 (pFaddr 1 (tg 2)),
  il 7 (tg 6) (mLoad1 (tg 6)),
  ip 8 (pBin .eql (tg 7) (cv (.int .i64 0)))]
@[simp] def ob4_2_ap := ops_rule (c := ob4_2) rfl
def ob4_3 : List IS := [ip 4 (pMov (cv (.int .u32 0)))]
@[simp] def ob4_3_ap := ops_rule (c := ob4_3) rfl
def cb4_1 : SC := sSeq (sReg (seqI ob4_3)) sRet
@[simp] def cb4_1_ap := seq_rule (c := cb4_1) rfl
def cb4_2 : SC := sCond (tg 8) cb4_1 sSkip
@[simp] def cb4_2_ap := cond_rule (c := cb4_2) rfl
def cb4_3 : SC := sSeq (sReg (seqI ob4_2)) cb4_2
@[simp] def cb4_3_ap := seq_rule (c := cb4_3) rfl
def ob4_4 : List DA := [⟨CI.pure (pMov (tg 1)), (some 9), none, 0, []⟩,
  ⟨CI.pure (pFaddr 4 (tg 2)), (some 10), none, 1, []⟩,
  ⟨CI.load (tg 10) (mLoad1 (tg 10)), (some 11), none, 2, []⟩,
  ⟨CI.pure (pBin .quo (tg 9) (tg 11)), (some 12), none, 3, []⟩,
  ⟨CI.pure (pConvI .u32 (tg 12)), (some 13), none, 4, []⟩,
  ⟨CI.pure (pFaddr 1 (tg 2)), (some 14), none, 5, []⟩,
  ⟨CI.load (tg 14) (mLoad1 (tg 14)), (some 15), none, 6, []⟩,
  ⟨CI.pure (pShift .shl (cv (.int .u32 1)) (tg 15)), (some 16), none, 7, []⟩,
  ⟨CI.pure (pBin .sub (tg 16) (cv (.int .u32 1))), (some 17), none, 8, []⟩,
  ⟨CI.pure (pBin .and (tg 13) (tg 17)), (some 18), none, 9, []⟩,
  ⟨CI.pure (pMov (tg 18)), (some 5), none, 10, []⟩]
@[simp] def ob4_4_ap := das_rule (c := ob4_4) rfl
def ob4_5 : List IS := [ip 19 (pFaddr 5 (tg 2)),
  il 20 (tg 19) (mLoad1 (tg 19))]
@[simp] def ob4_5_ap := ops_rule (c := ob4_5) rfl
def ob4_6 : List IS := [ip 21 (pMov (tg 5)),
  ip 22 (pBin .xor (tg 21) (cv (.int .u32 1))),
  ip 5 (pMov (tg 22))]
@[simp] def ob4_6_ap := ops_rule (c := ob4_6) rfl
def cb4_4 : SC := sCond (tg 20) (sReg (seqI ob4_6)) sSkip
@[simp] def cb4_4_ap := cond_rule (c := cb4_4) rfl
def cb4_5 : SC := sSeq (sReg (seqI ob4_5)) cb4_4
@[simp] def cb4_5_ap := seq_rule (c := cb4_5) rfl
def ob4_7 : List IS := [ip 23 (pMov (tg 5)),
  ip 24 (pFaddr 0 (tg 2)),
  il 25 (tg 24) (mLoad1 (tg 24)),
  ip 26 (pShift .shl (tg 23) (tg 25)),
  ip 4 (pMov (tg 26))]
@[simp] def ob4_7_ap := ops_rule (c := ob4_7) rfl
def cb4_6 : SC := sSeq (sReg (seqI ob4_7)) sRet
@[simp] def cb4_6_ap := seq_rule (c := cb4_6) rfl
def cb4_7 : SC := sSeq cb4_5 cb4_6
@[simp] def cb4_7_ap := seq_rule (c := cb4_7) rfl
def cb4_8 : SC := sSeq (sAny ob4_4) cb4_7
@[simp] def cb4_8_ap := seq_rule (c := cb4_8) rfl
def cb4_9 : SC := sSeq cb4_3 cb4_8
@[simp] def cb4_9_ap := seq_rule (c := cb4_9) rfl
def cb4_10 : SC := sSeq (sReg (seqI ob4_1)) cb4_9
@[simp] def cb4_10_ap := seq_rule (c := cb4_10) rfl
def db4 : DFn := ⟨cb4_10, 27, [.t 4]⟩
theorem db4_ok : fnOf Try.prog 73 = some db4 := by kernel_rfl
end
end Go.Sx
