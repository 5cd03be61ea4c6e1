/- Compiled code. -/
import Derived.Test.YtjoapkgigchboaaGa
import Derived.Test.YtjoapkgigchboaaProg
import Derived.KernelRfl
set_option linter.unusedVariables false
set_option linter.unusedSimpArgs false
set_option linter.defProp false
namespace Go.Sx
open Go.Dx Go.Proofs
noncomputable section
def ob5_1 : List IS := [im 1 2 (mAlloc [(.int .i64 0), (.int .i64 0), (.int .i64 0), (.int .i64 0), (.int .i64 0), (.int .i64 0)]),
  ip 3 (pMov (cv (.int .i64 0)))]
@[simp] def ob5_1_ap := ops_rule (c := ob5_1) rfl
def ob5_2 : List IS := [ip 11 (pMov (tg 0)),
  ip 12 (pShift .shr (tg 11) (cv (.int .u64 24))),
  ip 4 (pMov (tg 12))]
@[simp] def ob5_2_ap := ops_rule (c := ob5_2) rfl
def ob5_3 : List IS := [ip 13 (pMov (tg 4)),
  ip 14 (pBin .eql (tg 13) (cv (.int .u32 213))),
  ip 15 (pMov (tg 14)),
  gd 15 false (some 16) (ip 16 (pMov (tg 4))),
  gd 15 false (some 17) (ip 17 (pBin .eql (tg 16) (cv (.int .u32 212)))),
  ip 18 (pPick (tg 15) (cv (.bool true)) (tg 17))]
@[simp] def ob5_3_ap := ops_rule (c := ob5_3) rfl
def ob5_4 : List IS := [im 3 19 (mCall 48 [])]
@[simp] def ob5_4_ap := ops_rule (c := ob5_4) rfl
def ob5_5 : List IS := [ip 24 (pExtract (tg 23) 0), ip 25 (pExtract (tg 23) 1), ip 5 (pMov (tg 24)), ip 6 (pMov (tg 25))]
@[simp] def ob5_5_ap := ops_rule (c := ob5_5) rfl
def ob5_6 : List IS := [ip 26 (pMov (tg 6)),
  ip 27 (pMov (tg 0)),
  ip 28 (pBin .eql (tg 26) (tg 27))]
@[simp] def ob5_6_ap := ops_rule (c := ob5_6) rfl
def ob5_7 : List IS := [ip 29 (pMov (tg 5)),
  ip 30 (pBuild [(.int .i64 0), (.int .i64 0), (.int .i64 0), (.int .i64 0), (.int .i64 0), (.int .i64 0)] [(0, 1, (tg 29))]),
  im0 3 (mStore 6 (tg 2) (tg 30)),
  ip 3 (pMov (cv (.int .i64 0)))]
@[simp] def ob5_7_ap := ops_rule (c := ob5_7) rfl
def cb5_1 : SC := sSeq (sReg (seqI ob5_7)) sRet
@[simp] def cb5_1_ap := seq_rule (c := cb5_1) rfl
def cb5_2 : SC := sCond (tg 28) cb5_1 sSkip
@[simp] def cb5_2_ap := cond_rule (c := cb5_2) rfl
def cb5_3 : SC := sSeq (sReg (seqI ob5_6)) cb5_2
@[simp] def cb5_3_ap := seq_rule (c := cb5_3) rfl
def q_code_Decode_1 : RmP := ⟨(tg 19), 20, 21, 22, 23, 0, 1, ob5_4, ob5_5⟩
def cb5_4 : SC := sRm 56 q_code_Decode_1 cb5_3
@[simp] def cb5_4_ap := rm_rule (c := cb5_4) (p := q_code_Decode_1) (pre := ob5_4) rfl rfl
@[simp] def q_code_Decode_1_rd := rd_rule (p := q_code_Decode_1) (c := cb5_3) (asn := ob5_5) (nx := 21) (mo := 22) (pr := 23) (nxt := 1) rfl rfl rfl rfl rfl
def cb5_5 : SC := sCond (tg 18) cb5_4 sSkip
@[simp] def cb5_5_ap := cond_rule (c := cb5_5) rfl
def cb5_6 : SC := sSeq (sReg (seqI ob5_3)) cb5_5
@[simp] def cb5_6_ap := seq_rule (c := cb5_6) rfl
def cb5_7 : SC := sSeq (sReg (seqI ob5_2)) cb5_6
@[simp] def cb5_7_ap := seq_rule (c := cb5_7) rfl
def ob5_8 : List IS := [ip 7 (pMov (cv (.int .i64 1)))]
@[simp] def ob5_8_ap := ops_rule (c := ob5_8) rfl
def ob5_9 : List IS := [ip 31 (pMov (tg 7)),
  ip 32 (pBin .leq (tg 31) (cv (.int .i64 47)))]
@[simp] def ob5_9_ap := ops_rule (c := ob5_9) rfl
def cb5_8 : SC := sCond (tg 32) sSkip (sExit 2)
@[simp] def cb5_8_ap := cond_rule (c := cb5_8) rfl
def cb5_9 : SC := sSeq (sReg (seqI ob5_9)) cb5_8
@[simp] def cb5_9_ap := seq_rule (c := cb5_9) rfl
def ob5_10 : List IS := [ip 36 (pMov (tg 7)),
  im 3 37 (mCall 49 [(tg 36)]),
  ip 35 (pMov (tg 37)),
  ip 38 (pExtract (tg 35) 0),
  ip 39 (pExtract (tg 35) 1),
  im 1 8 (mAlloc [(.int .u32 0), (.int .i64 0), (.int .i64 0), (.int .i64 0), (.int .i64 0), (.int .i64 0), (.bool false), (.int .i64 0), (.int .i64 0), (.int .i64 0), (.int .i64 0), (.int .i64 0), (.bool false), (.int .i64 0), (.int .i64 0), (.int .i64 0), (.int .i64 0), (.int .i64 0), (.bool false), (.int .i64 0), (.int .i64 0), (.int .i64 0), (.int .i64 0), (.int .i64 0), (.bool false), (.int .i64 0), (.int .i64 0), (.int .i64 0), (.int .i64 0), (.int .i64 0), (.bool false)]),
  im0 3 (mStore 31 (tg 8) (tg 38)),
  ip 9 (pMov (tg 39))]
@[simp] def ob5_10_ap := ops_rule (c := ob5_10) rfl
def ob5_11 : List IS := [il 40 (tg 8) (mLoadN 31 (tg 8)),
  ip 41 (pMov (tg 7)),
  ip 42 (pMov (tg 0)),
  im 3 43 (mCall 50 [(tg 40), (tg 41), (tg 42)]),
  im 1 10 (mAlloc [(.int .i64 0), (.int .i64 0), (.int .i64 0), (.int .i64 0), (.int .i64 0), (.int .i64 0)]),
  im0 3 (mStore 6 (tg 10) (tg 43))]
@[simp] def ob5_11_ap := ops_rule (c := ob5_11) rfl
def ob5_12 : List IS := [il 44 (tg 8) (mLoadN 31 (tg 8)),
  il 45 (tg 10) (mLoadN 6 (tg 10)),
  im 3 46 (mCall 51 [(tg 44), (tg 45)]),
  ip 47 (pMov (tg 46)),
  gd 47 true (some 48) (il 48 (tg 8) (mLoadN 31 (tg 8))),
  gd 47 true (some 49) (il 49 (tg 10) (mLoadN 6 (tg 10))),
  gd 47 true (some 50) (im 3 50 (mCall 52 [(tg 48), (tg 49)])),
  gd 47 true (some 51) (ip 51 (pMov (tg 0))),
  gd 47 true (some 52) (ip 52 (pBin .eql (tg 50) (tg 51))),
  ip 53 (pPick (tg 47) (tg 52) (cv (.bool false)))]
@[simp] def ob5_12_ap := ops_rule (c := ob5_12) rfl
def ob5_13 : List IS := [il 54 (tg 10) (mLoadN 6 (tg 10)),
  im0 3 (mStore 6 (tg 2) (tg 54)),
  ip 3 (pMov (cv (.int .i64 0)))]
@[simp] def ob5_13_ap := ops_rule (c := ob5_13) rfl
def cb5_10 : SC := sSeq (sReg (seqI ob5_13)) sRet
@[simp] def cb5_10_ap := seq_rule (c := cb5_10) rfl
def cb5_11 : SC := sCond (tg 53) cb5_10 sSkip
@[simp] def cb5_11_ap := cond_rule (c := cb5_11) rfl
def cb5_12 : SC := sSeq (sReg (seqI ob5_12)) cb5_11
@[simp] def cb5_12_ap := seq_rule (c := cb5_12) rfl
def cb5_13 : SC := sSeq (sReg (seqI ob5_11)) cb5_12
@[simp] def cb5_13_ap := seq_rule (c := cb5_13) rfl
def cb5_14 : SC := sSeq (sReg (seqI ob5_10)) cb5_13
@[simp] def cb5_14_ap := seq_rule (c := cb5_14) rfl
def cb5_15 : SC := sBlock 3 cb5_14
@[simp] def cb5_15_ap := block_rule (c := cb5_15) rfl
def ob5_14 : List IS := [ip 33 (pMov (tg 7)),
  ip 34 (pBin .add (tg 33) (cv (.int .i64 1))),
  ip 7 (pMov (tg 34))]
@[simp] def ob5_14_ap := ops_rule (c := ob5_14) rfl
def cb5_16 : SC := sSeq cb5_15 (sReg (seqI ob5_14))
@[simp] def cb5_16_ap := seq_rule (c := cb5_16) rfl
def cb5_17 : SC := sSeq cb5_9 cb5_16
@[simp] def cb5_17_ap := seq_rule (c := cb5_17) rfl
def cb5_18 : SC := sLoop cb5_17
def cb5_19 : SC := sBlock 2 cb5_18
@[simp] def cb5_19_ap := block_rule (c := cb5_19) rfl
def cb5_20 : SC := sSeq (sReg (seqI ob5_8)) cb5_19
@[simp] def cb5_20_ap := seq_rule (c := cb5_20) rfl
def ob5_15 : List IS := [ip 55 (pBuild [(.int .i64 0), (.int .i64 0), (.int .i64 0), (.int .i64 0), (.int .i64 0), (.int .i64 0)] []),
  im0 3 (mStore 6 (tg 2) (tg 55)),
  ip 3 (pMov (cv (.int .i64 7)))]
@[simp] def ob5_15_ap := ops_rule (c := ob5_15) rfl
def cb5_21 : SC := sSeq (sReg (seqI ob5_15)) sRet
@[simp] def cb5_21_ap := seq_rule (c := cb5_21) rfl
def cb5_22 : SC := sSeq cb5_20 cb5_21
@[simp] def cb5_22_ap := seq_rule (c := cb5_22) rfl
def cb5_23 : SC := sSeq cb5_7 cb5_22
@[simp] def cb5_23_ap := seq_rule (c := cb5_23) rfl
def cb5_24 : SC := sSeq (sReg (seqI ob5_1)) cb5_23
@[simp] def cb5_24_ap := seq_rule (c := cb5_24) rfl
def db5 : DFn := ⟨cb5_24, 56, [.cell 2 6, .t 3]⟩
theorem db5_ok : fnOf Try.prog 29 = some db5 := by kernel_rfl
def oc1_1 : List IS := [ip 0 (pMov (cv (.map none)))]
@[simp] def oc1_1_ap := ops_rule (c := oc1_1) rfl
def oc1_2 : List IS := [im 3 1 mMkmap,
  im0 3 (mMapup (tg 1) (cv (.int .i64 30)) (cv (.int .u32 3573759423))),
  im0 3 (mMapup (tg 1) (cv (.int .i64 31)) (cv (.int .u32 3573759935))),
  im0 3 (mMapup (tg 1) (cv (.int .i64 32)) (cv (.int .u32 3573751839))),
  im0 3 (mMapup (tg 1) (cv (.int .i64 34)) (cv (.int .u32 3560964096))),
  ip 2 (pMov (tg 1)),
  ip 0 (pMov (tg 2))]
@[simp] def oc1_2_ap := ops_rule (c := oc1_2) rfl
def cc1_1 : SC := sSeq (sReg (seqI oc1_2)) sRet
@[simp] def cc1_1_ap := seq_rule (c := cc1_1) rfl
def cc1_2 : SC := sSeq (sReg (seqI oc1_1)) cc1_1
@[simp] def cc1_2_ap := seq_rule (c := cc1_2) rfl
def dc1 : DFn := ⟨cc1_2, 3, [.t 0]⟩
theorem dc1_ok : fnOf Try.prog 48 = some dc1 := by kernel_rfl
def oc2_1 : List IS := [im 1 2 (mAlloc [(.int .u32 0), (.int .i64 0), (.int .i64 0), (.int .i64 0), (.int .i64 0), (.int .i64 0), (.bool false), (.int .i64 0), (.int .i64 0), (.int .i64 0), (.int .i64 0), (.int .i64 0), (.bool false), (.int .i64 0), (.int .i64 0), (.int .i64 0), (.int .i64 0), (.int .i64 0), (.bool false), (.int .i64 0), (.int .i64 0), (.int .i64 0), (.int .i64 0), (.int .i64 0), (.bool false), (.int .i64 0), (.int .i64 0), (.int .i64 0), (.int .i64 0), (.int .i64 0), (.bool false)]),
  ip 3 (pMov (cv (.bool false)))]
@[simp] def oc2_1_ap := ops_rule (c := oc2_1) rfl
def oc2_2 : List IS := [ip 5 (pMov (tg 0)),
  ip 6 (pBin .lss (tg 5) (cv (.int .i64 1))),
  ip 7 (pMov (tg 6)),
  gd 7 false (some 8) (ip 8 (pMov (tg 0))),
  gd 7 false (some 9) (ip 9 (pBin .gtr (tg 8) (cv (.int .i64 47)))),
  ip 10 (pPick (tg 7) (cv (.bool true)) (tg 9))]
@[simp] def oc2_2_ap := ops_rule (c := oc2_2) rfl
def oc2_3 : List IS := [il 11 (tg 2) (mLoadN 31 (tg 2)),
  im0 3 (mStore 31 (tg 2) (tg 11)),
  ip 3 (pMov (cv (.bool false)))]
def cc2_1 : SC := sSeq (sReg (seqI oc2_3)) sRet
def cc2_2 : SC := sCond (tg 10) cc2_1 sSkip
@[simp] def cc2_2_ap := cond_rule (c := cc2_2) rfl
def cc2_3 : SC := sSeq (sReg (seqI oc2_2)) cc2_2
@[simp] def cc2_3_ap := seq_rule (c := cc2_3) rfl
def oc2_4 : List IS := [ip 12 (pMov (tg 0)),
  im 3 13 (mCall 65 [(tg 12)]),
  ip 14 (pFaddr 0 (tg 2)),
  im0 3 (mStore 1 (tg 14) (tg 13))]
@[simp] def oc2_4_ap := ops_rule (c := oc2_4) rfl
def oc2_5 : List IS := [ip 15 (pFaddr 1 (tg 2)),
  ip 4 (pMov (tg 15))]
@[simp] def oc2_5_ap := ops_rule (c := oc2_5) rfl
def oc2_6 : List IS := [ip 29 (pFaddr 0 (tg 2)),
  il 30 (tg 29) (mLoad1 (tg 29)),
  ip 31 (pBin .eql (tg 30) (cv (.int .u32 0))),
  ip 28 (pMov (tg 31))]
@[simp] def oc2_6_ap := ops_rule (c := oc2_6) rfl
def oc2_7 : List IS := [im 3 32 (mCall 48 []),
  ip 33 (pMov (tg 0)),
  im 3 34 (mLookup (.int .u32 0) false (tg 32) (tg 33)),
  ip 35 (pFaddr 0 (tg 2)),
  im0 3 (mStore 1 (tg 35) (tg 34))]
@[simp] def oc2_7_ap := ops_rule (c := oc2_7) rfl
def oc2_8 : List IS := [ip 37 (pMov (tg 0)),
  ip 38 (pBin .leq (tg 37) (cv (.int .i64 2))),
  ip 36 (pMov (tg 38))]
@[simp] def oc2_8_ap := ops_rule (c := oc2_8) rfl
def oc2_9 : List DA := [⟨CI.pure (pMov (tg 4)), (some 39), none, 0, []⟩,
  ⟨CI.pure (pMov (tg 4)), (some 40), none, 1, []⟩,
  ⟨CI.pure (pMov (tg 4)), (some 41), none, 2, []⟩,
  ⟨CI.mem 3 (mCall 66 [(cv (.int .i64 0))]), (some 42), none, 3, []⟩,
  ⟨CI.mem 3 (mCall 67 [(cv (.int .i64 5)), (cv (.int .i64 16)), (cv (.int .i64 65535)), (cv (.int .i64 1))]), (some 43), none, 4, []⟩,
  ⟨CI.mem 3 (mCall 67 [(cv (.int .i64 21)), (cv (.int .i64 2)), (cv (.int .i64 3)), (cv (.int .i64 1))]), (some 44), none, 5, []⟩,
  ⟨CI.pure (pNilck (tg 39)), (some 45), none, 6, []⟩,
  ⟨CI.pure (pIaddrA 5 6 (tg 45) (cv (.int .i64 0))), (some 46), none, 7, []⟩,
  ⟨CI.mem 3 (mStore 6 (tg 46) (tg 42)), none, none, 8, []⟩,
  ⟨CI.pure (pNilck (tg 40)), (some 47), none, 9, []⟩,
  ⟨CI.pure (pIaddrA 5 6 (tg 47) (cv (.int .i64 3))), (some 48), none, 10, []⟩,
  ⟨CI.mem 3 (mStore 6 (tg 48) (tg 43)), none, none, 11, []⟩,
  ⟨CI.pure (pNilck (tg 41)), (some 49), none, 12, []⟩,
  ⟨CI.pure (pIaddrA 5 6 (tg 49) (cv (.int .i64 4))), (some 50), none, 13, []⟩,
  ⟨CI.mem 3 (mStore 6 (tg 50) (tg 44)), none, none, 14, []⟩]
@[simp] def oc2_9_ap := das_rule (c := oc2_9) rfl
def oc2_10 : List IS := [ip 52 (pMov (tg 0)),
  ip 53 (pBin .leq (tg 52) (cv (.int .i64 11))),
  ip 51 (pMov (tg 53))]
@[simp] def oc2_10_ap := ops_rule (c := oc2_10) rfl
def oc2_11 : List DA := [⟨CI.pure (pMov (tg 4)), (some 54), none, 0, []⟩,
  ⟨CI.pure (pMov (tg 4)), (some 55), none, 1, []⟩,
  ⟨CI.pure (pMov (tg 4)), (some 56), none, 2, []⟩,
  ⟨CI.mem 3 (mCall 66 [(cv (.int .i64 0))]), (some 57), none, 3, []⟩,
  ⟨CI.mem 3 (mCall 66 [(cv (.int .i64 5))]), (some 58), none, 4, []⟩,
  ⟨CI.mem 3 (mCall 66 [(cv (.int .i64 16))]), (some 59), none, 5, []⟩,
  ⟨CI.pure (pNilck (tg 54)), (some 60), none, 6, []⟩,
  ⟨CI.pure (pIaddrA 5 6 (tg 60) (cv (.int .i64 0))), (some 61), none, 7, []⟩,
  ⟨CI.mem 3 (mStore 6 (tg 61) (tg 57)), none, none, 8, []⟩,
  ⟨CI.pure (pNilck (tg 55)), (some 62), none, 9, []⟩,
  ⟨CI.pure (pIaddrA 5 6 (tg 62) (cv (.int .i64 1))), (some 63), none, 10, []⟩,
  ⟨CI.mem 3 (mStore 6 (tg 63) (tg 58)), none, none, 11, []⟩,
  ⟨CI.pure (pNilck (tg 56)), (some 64), none, 12, []⟩,
  ⟨CI.pure (pIaddrA 5 6 (tg 64) (cv (.int .i64 2))), (some 65), none, 13, []⟩,
  ⟨CI.mem 3 (mStore 6 (tg 65) (tg 59)), none, none, 14, []⟩]
@[simp] def oc2_11_ap := das_rule (c := oc2_11) rfl
def oc2_12 : List IS := [ip 67 (pMov (tg 0)),
  ip 68 (pBin .leq (tg 67) (cv (.int .i64 13))),
  ip 66 (pMov (tg 68))]
@[simp] def oc2_12_ap := ops_rule (c := oc2_12) rfl
def oc2_13 : List DA := [⟨CI.pure (pMov (tg 4)), (some 69), none, 0, []⟩,
  ⟨CI.pure (pMov (tg 4)), (some 70), none, 1, []⟩,
  ⟨CI.pure (pMov (tg 4)), (some 71), none, 2, []⟩,
  ⟨CI.mem 3 (mCall 68 [(cv (.int .i64 0))]), (some 72), none, 3, []⟩,
  ⟨CI.mem 3 (mCall 68 [(cv (.int .i64 5))]), (some 73), none, 4, []⟩,
  ⟨CI.mem 3 (mCall 67 [(cv (.int .i64 10)), (cv (.int .i64 12)), (cv (.int .i64 4095)), (cv (.int .i64 1))]), (some 74), none, 5, []⟩,
  ⟨CI.pure (pNilck (tg 69)), (some 75), none, 6, []⟩,
  ⟨CI.pure (pIaddrA 5 6 (tg 75) (cv (.int .i64 0))), (some 76), none, 7, []⟩,
  ⟨CI.mem 3 (mStore 6 (tg 76) (tg 72)), none, none, 8, []⟩,
  ⟨CI.pure (pNilck (tg 70)), (some 77), none, 9, []⟩,
  ⟨CI.pure (pIaddrA 5 6 (tg 77) (cv (.int .i64 1))), (some 78), none, 10, []⟩,
  ⟨CI.mem 3 (mStore 6 (tg 78) (tg 73)), none, none, 11, []⟩,
  ⟨CI.pure (pNilck (tg 71)), (some 79), none, 12, []⟩,
  ⟨CI.pure (pIaddrA 5 6 (tg 79) (cv (.int .i64 3))), (some 80), none, 13, []⟩,
  ⟨CI.mem 3 (mStore 6 (tg 80) (tg 74)), none, none, 14, []⟩]
@[simp] def oc2_13_ap := das_rule (c := oc2_13) rfl
def oc2_14 : List IS := [ip 82 (pMov (tg 0)),
  ip 83 (pBin .eql (tg 82) (cv (.int .i64 14))),
  ip 81 (pMov (tg 83))]
@[simp] def oc2_14_ap := ops_rule (c := oc2_14) rfl
def oc2_15 : List DA := [⟨CI.pure (pMov (tg 4)), (some 84), none, 0, []⟩,
  ⟨CI.pure (pMov (tg 4)), (some 85), none, 1, []⟩,
  ⟨CI.pure (pMov (tg 4)), (some 86), none, 2, []⟩,
  ⟨CI.mem 3 (mCall 66 [(cv (.int .i64 0))]), (some 87), none, 3, []⟩,
  ⟨CI.mem 3 (mCall 66 [(cv (.int .i64 5))]), (some 88), none, 4, []⟩,
  ⟨CI.mem 3 (mCall 67 [(cv (.int .i64 0)), (cv (.int .i64 0)), (cv (.int .i64 63)), (cv (.int .i64 1))]), (some 89), none, 5, []⟩,
  ⟨CI.pure (pNilck (tg 84)), (some 90), none, 6, []⟩,
  ⟨CI.pure (pIaddrA 5 6 (tg 90) (cv (.int .i64 0))), (some 91), none, 7, []⟩,
  ⟨CI.mem 3 (mStore 6 (tg 91) (tg 87)), none, none, 8, []⟩,
  ⟨CI.pure (pNilck (tg 85)), (some 92), none, 9, []⟩,
  ⟨CI.pure (pIaddrA 5 6 (tg 92) (cv (.int .i64 1))), (some 93), none, 10, []⟩,
  ⟨CI.mem 3 (mStore 6 (tg 93) (tg 88)), none, none, 11, []⟩,
  ⟨CI.pure (pNilck (tg 86)), (some 94), none, 12, []⟩,
  ⟨CI.pure (pIaddrA 5 6 (tg 94) (cv (.int .i64 3))), (some 95), none, 13, []⟩,
  ⟨CI.mem 3 (mStore 6 (tg 95) (tg 89)), none, none, 14, []⟩]
@[simp] def oc2_15_ap := das_rule (c := oc2_15) rfl
def oc2_16 : List IS := [ip 97 (pMov (tg 0)),
  ip 98 (pBin .eql (tg 97) (cv (.int .i64 15))),
  ip 96 (pMov (tg 98))]
@[simp] def oc2_16_ap := ops_rule (c := oc2_16) rfl
def oc2_17 : List DA := [⟨CI.pure (pMov (tg 4)), (some 99), none, 0, []⟩,
  ⟨CI.pure (pMov (tg 4)), (some 100), none, 1, []⟩,
  ⟨CI.pure (pMov (tg 4)), (some 101), none, 2, []⟩,
  ⟨CI.mem 3 (mCall 66 [(cv (.int .i64 0))]), (some 102), none, 3, []⟩,
  ⟨CI.mem 3 (mCall 66 [(cv (.int .i64 5))]), (some 103), none, 4, []⟩,
  ⟨CI.mem 3 (mCall 67 [(cv (.int .i64 16)), (cv (.int .i64 6)), (cv (.int .i64 63)), (cv (.int .i64 1))]), (some 104), none, 5, []⟩,
  ⟨CI.pure (pNilck (tg 99)), (some 105), none, 6, []⟩,
  ⟨CI.pure (pIaddrA 5 6 (tg 105) (cv (.int .i64 0))), (some 106), none, 7, []⟩,
  ⟨CI.mem 3 (mStore 6 (tg 106) (tg 102)), none, none, 8, []⟩,
  ⟨CI.pure (pNilck (tg 100)), (some 107), none, 9, []⟩,
  ⟨CI.pure (pIaddrA 5 6 (tg 107) (cv (.int .i64 1))), (some 108), none, 10, []⟩,
  ⟨CI.mem 3 (mStore 6 (tg 108) (tg 103)), none, none, 11, []⟩,
  ⟨CI.pure (pNilck (tg 101)), (some 109), none, 12, []⟩,
  ⟨CI.pure (pIaddrA 5 6 (tg 109) (cv (.int .i64 3))), (some 110), none, 13, []⟩,
  ⟨CI.mem 3 (mStore 6 (tg 110) (tg 104)), none, none, 14, []⟩]
@[simp] def oc2_17_ap := das_rule (c := oc2_17) rfl
def oc2_18 : List IS := [ip 112 (pMov (tg 0)),
  ip 113 (pBin .eql (tg 112) (cv (.int .i64 16))),
  ip 111 (pMov (tg 113))]
@[simp] def oc2_18_ap := ops_rule (c := oc2_18) rfl
def oc2_19 : List DA := [⟨CI.pure (pMov (tg 4)), (some 114), none, 0, []⟩,
  ⟨CI.pure (pMov (tg 4)), (some 115), none, 1, []⟩,
  ⟨CI.mem 3 (mCall 66 [(cv (.int .i64 5))]), (some 116), none, 2, []⟩,
  ⟨CI.mem 3 (mCall 66 [(cv (.int .i64 16))]), (some 117), none, 3, []⟩,
  ⟨CI.pure (pNilck (tg 114)), (some 118), none, 4, []⟩,
  ⟨CI.pure (pIaddrA 5 6 (tg 118) (cv (.int .i64 1))), (some 119), none, 5, []⟩,
  ⟨CI.mem 3 (mStore 6 (tg 119) (tg 116)), none, none, 6, []⟩,
  ⟨CI.pure (pNilck (tg 115)), (some 120), none, 7, []⟩,
  ⟨CI.pure (pIaddrA 5 6 (tg 120) (cv (.int .i64 2))), (some 121), none, 8, []⟩,
  ⟨CI.mem 3 (mStore 6 (tg 121) (tg 117)), none, none, 9, []⟩]
@[simp] def oc2_19_ap := das_rule (c := oc2_19) rfl
def oc2_20 : List IS := [ip 123 (pMov (tg 0)),
  ip 124 (pBin .eql (tg 123) (cv (.int .i64 17))),
  ip 122 (pMov (tg 124))]
@[simp] def oc2_20_ap := ops_rule (c := oc2_20) rfl
def oc2_21 : List DA := [⟨CI.pure (pMov (tg 4)), (some 125), none, 0, []⟩,
  ⟨CI.pure (pMov (tg 4)), (some 126), none, 1, []⟩,
  ⟨CI.mem 3 (mCall 66 [(cv (.int .i64 0))]), (some 127), none, 2, []⟩,
  ⟨CI.pure (pBuild [(.int .i64 0), (.int .i64 0), (.int .i64 0), (.int .i64 0), (.int .i64 0), (.bool false)] [(0, 1, (cv (.int .i64 12))), (1, 1, (cv (.int .i64 4))), (3, 1, (cv (.int .i64 13))), (4, 1, (cv (.int .i64 1))), (5, 1, (cv (.bool true)))]), (some 128), none, 3, []⟩,
  ⟨CI.pure (pNilck (tg 125)), (some 129), none, 4, []⟩,
  ⟨CI.pure (pIaddrA 5 6 (tg 129) (cv (.int .i64 0))), (some 130), none, 5, []⟩,
  ⟨CI.mem 3 (mStore 6 (tg 130) (tg 127)), none, none, 6, []⟩,
  ⟨CI.pure (pNilck (tg 126)), (some 131), none, 7, []⟩,
  ⟨CI.pure (pIaddrA 5 6 (tg 131) (cv (.int .i64 4))), (some 132), none, 8, []⟩,
  ⟨CI.mem 3 (mStore 6 (tg 132) (tg 128)), none, none, 9, []⟩]
@[simp] def oc2_21_ap := das_rule (c := oc2_21) rfl
def oc2_22 : List IS := [ip 134 (pMov (tg 0)),
  ip 135 (pBin .eql (tg 134) (cv (.int .i64 18))),
  ip 133 (pMov (tg 135))]
@[simp] def oc2_22_ap := ops_rule (c := oc2_22) rfl
def oc2_23 : List DA := [⟨CI.pure (pMov (tg 4)), (some 136), none, 0, []⟩,
  ⟨CI.mem 3 (mCall 69 [(cv (.int .i64 0)), (cv (.int .i64 26))]), (some 137), none, 1, []⟩,
  ⟨CI.pure (pNilck (tg 136)), (some 138), none, 2, []⟩,
  ⟨CI.pure (pIaddrA 5 6 (tg 138) (cv (.int .i64 3))), (some 139), none, 3, []⟩,
  ⟨CI.mem 3 (mStore 6 (tg 139) (tg 137)), none, none, 4, []⟩]
@[simp] def oc2_23_ap := das_rule (c := oc2_23) rfl
def oc2_24 : List IS := [ip 141 (pMov (tg 0)),
  ip 142 (pBin .eql (tg 141) (cv (.int .i64 19))),
  ip 140 (pMov (tg 142))]
@[simp] def oc2_24_ap := ops_rule (c := oc2_24) rfl
def oc2_25 : List DA := [⟨CI.pure (pMov (tg 4)), (some 143), none, 0, []⟩,
  ⟨CI.pure (pMov (tg 4)), (some 144), none, 1, []⟩,
  ⟨CI.mem 3 (mCall 69 [(cv (.int .i64 5)), (cv (.int .i64 19))]), (some 145), none, 2, []⟩,
  ⟨CI.mem 3 (mCall 67 [(cv (.int .i64 0)), (cv (.int .i64 4)), (cv (.int .i64 13)), (cv (.int .i64 1))]), (some 146), none, 3, []⟩,
  ⟨CI.pure (pNilck (tg 143)), (some 147), none, 4, []⟩,
  ⟨CI.pure (pIaddrA 5 6 (tg 147) (cv (.int .i64 3))), (some 148), none, 5, []⟩,
  ⟨CI.mem 3 (mStore 6 (tg 148) (tg 145)), none, none, 6, []⟩,
  ⟨CI.pure (pNilck (tg 144)), (some 149), none, 7, []⟩,
  ⟨CI.pure (pIaddrA 5 6 (tg 149) (cv (.int .i64 4))), (some 150), none, 8, []⟩,
  ⟨CI.mem 3 (mStore 6 (tg 150) (tg 146)), none, none, 9, []⟩]
@[simp] def oc2_25_ap := das_rule (c := oc2_25) rfl
def oc2_26 : List IS := [ip 152 (pMov (tg 0)),
  ip 153 (pBin .leq (tg 152) (cv (.int .i64 21))),
  ip 151 (pMov (tg 153))]
@[simp] def oc2_26_ap := ops_rule (c := oc2_26) rfl
def oc2_27 : List DA := [⟨CI.pure (pMov (tg 4)), (some 154), none, 0, []⟩,
  ⟨CI.pure (pMov (tg 4)), (some 155), none, 1, []⟩,
  ⟨CI.mem 3 (mCall 66 [(cv (.int .i64 0))]), (some 156), none, 2, []⟩,
  ⟨CI.mem 3 (mCall 69 [(cv (.int .i64 5)), (cv (.int .i64 19))]), (some 157), none, 3, []⟩,
  ⟨CI.pure (pNilck (tg 154)), (some 158), none, 4, []⟩,
  ⟨CI.pure (pIaddrA 5 6 (tg 158) (cv (.int .i64 0))), (some 159), none, 5, []⟩,
  ⟨CI.mem 3 (mStore 6 (tg 159) (tg 156)), none, none, 6, []⟩,
  ⟨CI.pure (pNilck (tg 155)), (some 160), none, 7, []⟩,
  ⟨CI.pure (pIaddrA 5 6 (tg 160) (cv (.int .i64 3))), (some 161), none, 8, []⟩,
  ⟨CI.mem 3 (mStore 6 (tg 161) (tg 157)), none, none, 9, []⟩]
@[simp] def oc2_27_ap := das_rule (c := oc2_27) rfl
def oc2_28 : List IS := [ip 163 (pMov (tg 0)),
  ip 164 (pBin .leq (tg 163) (cv (.int .i64 23))),
  ip 162 (pMov (tg 164))]
@[simp] def oc2_28_ap := ops_rule (c := oc2_28) rfl
def oc2_29 : List DA := [⟨CI.pure (pMov (tg 4)), (some 165), none, 0, []⟩,
  ⟨CI.pure (pMov (tg 4)), (some 166), none, 1, []⟩,
  ⟨CI.pure (pMov (tg 4)), (some 167), none, 2, []⟩,
  ⟨CI.mem 3 (mCall 66 [(cv (.int .i64 0))]), (some 168), none, 3, []⟩,
  ⟨CI.mem 3 (mCall 68 [(cv (.int .i64 5))]), (some 169), none, 4, []⟩,
  ⟨CI.mem 3 (mCall 67 [(cv (.int .i64 10)), (cv (.int .i64 12)), (cv (.int .i64 32760)), (cv (.int .i64 8))]), (some 170), none, 5, []⟩,
  ⟨CI.pure (pNilck (tg 165)), (some 171), none, 6, []⟩,
  ⟨CI.pure (pIaddrA 5 6 (tg 171) (cv (.int .i64 0))), (some 172), none, 7, []⟩,
  ⟨CI.mem 3 (mStore 6 (tg 172) (tg 168)), none, none, 8, []⟩,
  ⟨CI.pure (pNilck (tg 166)), (some 173), none, 9, []⟩,
  ⟨CI.pure (pIaddrA 5 6 (tg 173) (cv (.int .i64 1))), (some 174), none, 10, []⟩,
  ⟨CI.mem 3 (mStore 6 (tg 174) (tg 169)), none, none, 11, []⟩,
  ⟨CI.pure (pNilck (tg 167)), (some 175), none, 12, []⟩,
  ⟨CI.pure (pIaddrA 5 6 (tg 175) (cv (.int .i64 3))), (some 176), none, 13, []⟩,
  ⟨CI.mem 3 (mStore 6 (tg 176) (tg 170)), none, none, 14, []⟩]
@[simp] def oc2_29_ap := das_rule (c := oc2_29) rfl
def oc2_30 : List IS := [ip 178 (pMov (tg 0)),
  ip 179 (pBin .leq (tg 178) (cv (.int .i64 27))),
  ip 180 (pMov (tg 179)),
  gd 180 false (some 181) (ip 181 (pMov (tg 0))),
  gd 180 false (some 182) (ip 182 (pBin .eql (tg 181) (cv (.int .i64 35)))),
  ip 183 (pPick (tg 180) (cv (.bool true)) (tg 182)),
  ip 177 (pMov (tg 183))]
@[simp] def oc2_30_ap := ops_rule (c := oc2_30) rfl
def oc2_31 : List DA := [⟨CI.pure (pMov (tg 4)), (some 184), none, 0, []⟩,
  ⟨CI.pure (pMov (tg 4)), (some 185), none, 1, []⟩,
  ⟨CI.mem 3 (mCall 66 [(cv (.int .i64 0))]), (some 186), none, 2, []⟩,
  ⟨CI.mem 3 (mCall 68 [(cv (.int .i64 5))]), (some 187), none, 3, []⟩,
  ⟨CI.pure (pNilck (tg 184)), (some 188), none, 4, []⟩,
  ⟨CI.pure (pIaddrA 5 6 (tg 188) (cv (.int .i64 0))), (some 189), none, 5, []⟩,
  ⟨CI.mem 3 (mStore 6 (tg 189) (tg 186)), none, none, 6, []⟩,
  ⟨CI.pure (pNilck (tg 185)), (some 190), none, 7, []⟩,
  ⟨CI.pure (pIaddrA 5 6 (tg 190) (cv (.int .i64 1))), (some 191), none, 8, []⟩,
  ⟨CI.mem 3 (mStore 6 (tg 191) (tg 187)), none, none, 9, []⟩]
@[simp] def oc2_31_ap := das_rule (c := oc2_31) rfl
def oc2_32 : List IS := [ip 193 (pMov (tg 0)),
  ip 194 (pBin .leq (tg 193) (cv (.int .i64 29))),
  ip 192 (pMov (tg 194))]
@[simp] def oc2_32_ap := ops_rule (c := oc2_32) rfl
def oc2_33 : List DA := [⟨CI.pure (pMov (tg 4)), (some 195), none, 0, []⟩,
  ⟨CI.pure (pMov (tg 4)), (some 196), none, 1, []⟩,
  ⟨CI.pure (pMov (tg 4)), (some 197), none, 2, []⟩,
  ⟨CI.mem 3 (mCall 66 [(cv (.int .i64 0))]), (some 198), none, 3, []⟩,
  ⟨CI.mem 3 (mCall 68 [(cv (.int .i64 5))]), (some 199), none, 4, []⟩,
  ⟨CI.mem 3 (mCall 68 [(cv (.int .i64 16))]), (some 200), none, 5, []⟩,
  ⟨CI.pure (pNilck (tg 195)), (some 201), none, 6, []⟩,
  ⟨CI.pure (pIaddrA 5 6 (tg 201) (cv (.int .i64 0))), (some 202), none, 7, []⟩,
  ⟨CI.mem 3 (mStore 6 (tg 202) (tg 198)), none, none, 8, []⟩,
  ⟨CI.pure (pNilck (tg 196)), (some 203), none, 9, []⟩,
  ⟨CI.pure (pIaddrA 5 6 (tg 203) (cv (.int .i64 1))), (some 204), none, 10, []⟩,
  ⟨CI.mem 3 (mStore 6 (tg 204) (tg 199)), none, none, 11, []⟩,
  ⟨CI.pure (pNilck (tg 197)), (some 205), none, 12, []⟩,
  ⟨CI.pure (pIaddrA 5 6 (tg 205) (cv (.int .i64 2))), (some 206), none, 13, []⟩,
  ⟨CI.mem 3 (mStore 6 (tg 206) (tg 200)), none, none, 14, []⟩]
@[simp] def oc2_33_ap := das_rule (c := oc2_33) rfl
def oc2_34 : List IS := [ip 208 (pMov (tg 0)),
  ip 209 (pBin .eql (tg 208) (cv (.int .i64 33))),
  ip 207 (pMov (tg 209))]
@[simp] def oc2_34_ap := ops_rule (c := oc2_34) rfl
def oc2_35 : List DA := [⟨CI.pure (pMov (tg 4)), (some 210), none, 0, []⟩,
  ⟨CI.mem 3 (mCall 67 [(cv (.int .i64 5)), (cv (.int .i64 16)), (cv (.int .i64 30)), (cv (.int .i64 1))]), (some 211), none, 1, []⟩,
  ⟨CI.pure (pNilck (tg 210)), (some 212), none, 2, []⟩,
  ⟨CI.pure (pIaddrA 5 6 (tg 212) (cv (.int .i64 3))), (some 213), none, 3, []⟩,
  ⟨CI.mem 3 (mStore 6 (tg 213) (tg 211)), none, none, 4, []⟩]
@[simp] def oc2_35_ap := das_rule (c := oc2_35) rfl
def oc2_36 : List IS := [ip 215 (pMov (tg 0)),
  ip 216 (pBin .leq (tg 215) (cv (.int .i64 39))),
  ip 214 (pMov (tg 216))]
@[simp] def oc2_36_ap := ops_rule (c := oc2_36) rfl
def oc2_37 : List DA := [⟨CI.pure (pMov (tg 4)), (some 217), none, 0, []⟩,
  ⟨CI.pure (pMov (tg 4)), (some 218), none, 1, []⟩,
  ⟨CI.pure (pMov (tg 4)), (some 219), none, 2, []⟩,
  ⟨CI.mem 3 (mCall 66 [(cv (.int .i64 0))]), (some 220), none, 3, []⟩,
  ⟨CI.mem 3 (mCall 68 [(cv (.int .i64 5))]), (some 221), none, 4, []⟩,
  ⟨CI.mem 3 (mCall 68 [(cv (.int .i64 16))]), (some 222), none, 5, []⟩,
  ⟨CI.pure (pNilck (tg 217)), (some 223), none, 6, []⟩,
  ⟨CI.pure (pIaddrA 5 6 (tg 223) (cv (.int .i64 0))), (some 224), none, 7, []⟩,
  ⟨CI.mem 3 (mStore 6 (tg 224) (tg 220)), none, none, 8, []⟩,
  ⟨CI.pure (pNilck (tg 218)), (some 225), none, 9, []⟩,
  ⟨CI.pure (pIaddrA 5 6 (tg 225) (cv (.int .i64 1))), (some 226), none, 10, []⟩,
  ⟨CI.mem 3 (mStore 6 (tg 226) (tg 221)), none, none, 11, []⟩,
  ⟨CI.pure (pNilck (tg 219)), (some 227), none, 12, []⟩,
  ⟨CI.pure (pIaddrA 5 6 (tg 227) (cv (.int .i64 2))), (some 228), none, 13, []⟩,
  ⟨CI.mem 3 (mStore 6 (tg 228) (tg 222)), none, none, 14, []⟩]
@[simp] def oc2_37_ap := das_rule (c := oc2_37) rfl
def oc2_38 : List DA := [⟨CI.pure (pMov (tg 4)), (some 16), none, 0, []⟩,
  ⟨CI.pure (pMov (tg 4)), (some 17), none, 1, []⟩,
  ⟨CI.pure (pMov (tg 4)), (some 18), none, 2, []⟩,
  ⟨CI.mem 3 (mCall 68 [(cv (.int .i64 0))]), (some 19), none, 3, []⟩,
  ⟨CI.mem 3 (mCall 68 [(cv (.int .i64 5))]), (some 20), none, 4, []⟩,
  ⟨CI.mem 3 (mCall 66 [(cv (.int .i64 16))]), (some 21), none, 5, []⟩,
  ⟨CI.pure (pNilck (tg 16)), (some 22), none, 6, []⟩,
  ⟨CI.pure (pIaddrA 5 6 (tg 22) (cv (.int .i64 0))), (some 23), none, 7, []⟩,
  ⟨CI.mem 3 (mStore 6 (tg 23) (tg 19)), none, none, 8, []⟩,
  ⟨CI.pure (pNilck (tg 17)), (some 24), none, 9, []⟩,
  ⟨CI.pure (pIaddrA 5 6 (tg 24) (cv (.int .i64 1))), (some 25), none, 10, []⟩,
  ⟨CI.mem 3 (mStore 6 (tg 25) (tg 20)), none, none, 11, []⟩,
  ⟨CI.pure (pNilck (tg 18)), (some 26), none, 12, []⟩,
  ⟨CI.pure (pIaddrA 5 6 (tg 26) (cv (.int .i64 2))), (some 27), none, 13, []⟩,
  ⟨CI.mem 3 (mStore 6 (tg 27) (tg 21)), none, none, 14, []⟩]
@[simp] def oc2_38_ap := das_rule (c := oc2_38) rfl
def cc2_4 : SC := sCond (tg 214) (sAny oc2_37) (sAny oc2_38)
@[simp] def cc2_4_ap := cond_rule (c := cc2_4) rfl
def cc2_5 : SC := sSeq (sReg (seqI oc2_36)) cc2_4
@[simp] def cc2_5_ap := seq_rule (c := cc2_5) rfl
def cc2_6 : SC := sCond (tg 207) (sAny oc2_35) cc2_5
@[simp] def cc2_6_ap := cond_rule (c := cc2_6) rfl
def cc2_7 : SC := sSeq (sReg (seqI oc2_34)) cc2_6
@[simp] def cc2_7_ap := seq_rule (c := cc2_7) rfl
def cc2_8 : SC := sCond (tg 192) (sAny oc2_33) cc2_7
@[simp] def cc2_8_ap := cond_rule (c := cc2_8) rfl
def cc2_9 : SC := sSeq (sReg (seqI oc2_32)) cc2_8
@[simp] def cc2_9_ap := seq_rule (c := cc2_9) rfl
def cc2_10 : SC := sCond (tg 177) (sAny oc2_31) cc2_9
@[simp] def cc2_10_ap := cond_rule (c := cc2_10) rfl
def cc2_11 : SC := sSeq (sReg (seqI oc2_30)) cc2_10
@[simp] def cc2_11_ap := seq_rule (c := cc2_11) rfl
def cc2_12 : SC := sCond (tg 162) (sAny oc2_29) cc2_11
@[simp] def cc2_12_ap := cond_rule (c := cc2_12) rfl
def cc2_13 : SC := sSeq (sReg (seqI oc2_28)) cc2_12
@[simp] def cc2_13_ap := seq_rule (c := cc2_13) rfl
def cc2_14 : SC := sCond (tg 151) (sAny oc2_27) cc2_13
@[simp] def cc2_14_ap := cond_rule (c := cc2_14) rfl
def cc2_15 : SC := sSeq (sReg (seqI oc2_26)) cc2_14
@[simp] def cc2_15_ap := seq_rule (c := cc2_15) rfl
def cc2_16 : SC := sCond (tg 140) (sAny oc2_25) cc2_15
@[simp] def cc2_16_ap := cond_rule (c := cc2_16) rfl
def cc2_17 : SC := sSeq (sReg (seqI oc2_24)) cc2_16
@[simp] def cc2_17_ap := seq_rule (c := cc2_17) rfl
def cc2_18 : SC := sCond (tg 133) (sAny oc2_23) cc2_17
@[simp] def cc2_18_ap := cond_rule (c := cc2_18) rfl
def cc2_19 : SC := sSeq (sReg (seqI oc2_22)) cc2_18
@[simp] def cc2_19_ap := seq_rule (c := cc2_19) rfl
def cc2_20 : SC := sCond (tg 122) (sAny oc2_21) cc2_19
@[simp] def cc2_20_ap := cond_rule (c := cc2_20) rfl
def cc2_21 : SC := sSeq (sReg (seqI oc2_20)) cc2_20
@[simp] def cc2_21_ap := seq_rule (c := cc2_21) rfl
def cc2_22 : SC := sCond (tg 111) (sAny oc2_19) cc2_21
@[simp] def cc2_22_ap := cond_rule (c := cc2_22) rfl
def cc2_23 : SC := sSeq (sReg (seqI oc2_18)) cc2_22
@[simp] def cc2_23_ap := seq_rule (c := cc2_23) rfl
def cc2_24 : SC := sCond (tg 96) (sAny oc2_17) cc2_23
@[simp] def cc2_24_ap := cond_rule (c := cc2_24) rfl
def cc2_25 : SC := sSeq (sReg (seqI oc2_16)) cc2_24
@[simp] def cc2_25_ap := seq_rule (c := cc2_25) rfl
def cc2_26 : SC := sCond (tg 81) (sAny oc2_15) cc2_25
@[simp] def cc2_26_ap := cond_rule (c := cc2_26) rfl
def cc2_27 : SC := sSeq (sReg (seqI oc2_14)) cc2_26
@[simp] def cc2_27_ap := seq_rule (c := cc2_27) rfl
def cc2_28 : SC := sCond (tg 66) (sAny oc2_13) cc2_27
@[simp] def cc2_28_ap := cond_rule (c := cc2_28) rfl
def cc2_29 : SC := sSeq (sReg (seqI oc2_12)) cc2_28
@[simp] def cc2_29_ap := seq_rule (c := cc2_29) rfl
def cc2_30 : SC := sCond (tg 51) (sAny oc2_11) cc2_29
@[simp] def cc2_30_ap := cond_rule (c := cc2_30) rfl
def cc2_31 : SC := sSeq (sReg (seqI oc2_10)) cc2_30
@[simp] def cc2_31_ap := seq_rule (c := cc2_31) rfl
def cc2_32 : SC := sCond (tg 36) (sAny oc2_9) cc2_31
@[simp] def cc2_32_ap := cond_rule (c := cc2_32) rfl
def cc2_33 : SC := sSeq (sReg (seqI oc2_8)) cc2_32
@[simp] def cc2_33_ap := seq_rule (c := cc2_33) rfl
def cc2_34 : SC := sCond (tg 28) (sReg (seqI oc2_7)) cc2_33
@[simp] def cc2_34_ap := cond_rule (c := cc2_34) rfl
def cc2_35 : SC := sSeq (sReg (seqI oc2_6)) cc2_34
@[simp] def cc2_35_ap := seq_rule (c := cc2_35) rfl
def cc2_36 : SC := sBlock 0 cc2_35
@[simp] def cc2_36_ap := block_rule (c := cc2_36) rfl
def oc2_39 : List IS := [il 229 (tg 2) (mLoadN 31 (tg 2)),
  im0 3 (mStore 31 (tg 2) (tg 229)),
  ip 3 (pMov (cv (.bool true)))]
@[simp] def oc2_39_ap := ops_rule (c := oc2_39) rfl
def cc2_37 : SC := sSeq (sReg (seqI oc2_39)) sRet
@[simp] def cc2_37_ap := seq_rule (c := cc2_37) rfl
def cc2_38 : SC := sSeq cc2_36 cc2_37
@[simp] def cc2_38_ap := seq_rule (c := cc2_38) rfl
def cc2_39 : SC := sSeq (sReg (seqI oc2_5)) cc2_38
@[simp] def cc2_39_ap := seq_rule (c := cc2_39) rfl
def cc2_40 : SC := sSeq (sReg (seqI oc2_4)) cc2_39
@[simp] def cc2_40_ap := seq_rule (c := cc2_40) rfl
def cc2_41 : SC := sSeq cc2_3 cc2_40
@[simp] def cc2_41_ap := seq_rule (c := cc2_41) rfl
def cc2_42 : SC := sSeq (sReg (seqI oc2_1)) cc2_41
@[simp] def cc2_42_ap := seq_rule (c := cc2_42) rfl
def dc2 : DFn := ⟨cc2_42, 230, [.cell 2 31, .t 3]⟩
theorem dc2_ok : fnOf Try.prog 49 = some dc2 := by kernel_rfl
def oc3_1 : List IS := [im 1 3 (mBox (tg 0)),
  im 1 6 (mAlloc [(.int .i64 0), (.int .i64 0), (.int .i64 0), (.int .i64 0), (.int .i64 0), (.int .i64 0)])]
@[simp] def oc3_1_ap := ops_rule (c := oc3_1) rfl
def oc3_2 : List IS := [im 1 7 (mAlloc [(.int .i64 0), (.int .i64 0), (.int .i64 0), (.int .i64 0), (.int .i64 0)])]
@[simp] def oc3_2_ap := ops_rule (c := oc3_2) rfl
def oc3_3 : List IS := [ip 10 (pFaddr 1 (tg 3)),
  il 11 (tg 10) (mLoadN 30 (tg 10)),
  ip 12 (pMov (cv (.int .i64 0)))]
@[simp] def oc3_3_ap := ops_rule (c := oc3_3) rfl
def oc3_4 : List IS := [ip 13 (pBin .lss (tg 12) (cv (.int .i64 5)))]
@[simp] def oc3_4_ap := ops_rule (c := oc3_4) rfl
def cc3_1 : SC := sCond (tg 13) sSkip (sExit 0)
@[simp] def cc3_1_ap := cond_rule (c := cc3_1) rfl
def oc3_5 : List IS := [ip 14 (pMov (tg 12)),
  ip 15 (pIdx 5 true 6 (tg 11) (tg 12)),
  im 1 9 (mAlloc [(.int .i64 0), (.int .i64 0), (.int .i64 0), (.int .i64 0), (.int .i64 0), (.bool false)]),
  ip 8 (pMov (tg 14)),
  im0 3 (mStore 6 (tg 9) (tg 15))]
@[simp] def oc3_5_ap := ops_rule (c := oc3_5) rfl
def oc3_6 : List IS := [ip 16 (pMov (tg 8)),
  il 17 (tg 9) (mLoadN 6 (tg 9)),
  ip 18 (pMov (tg 2)),
  im 3 19 (mCall 70 [(tg 17), (tg 18)]),
  ip 20 (pIaddrA 5 1 (tg 7) (tg 16)),
  im0 3 (mStore 1 (tg 20) (tg 19))]
@[simp] def oc3_6_ap := ops_rule (c := oc3_6) rfl
def cc3_2 : SC := sSeq (sReg (seqI oc3_5)) (sReg (seqI oc3_6))
@[simp] def cc3_2_ap := seq_rule (c := cc3_2) rfl
def cc3_3 : SC := sBlock 1 cc3_2
@[simp] def cc3_3_ap := block_rule (c := cc3_3) rfl
def oc3_7 : List IS := [ip 21 (pBin .add (tg 12) (cv (.int .i64 1))),
  ip 12 (pMov (tg 21))]
@[simp] def oc3_7_ap := ops_rule (c := oc3_7) rfl
def cc3_4 : SC := sSeq cc3_3 (sReg (seqI oc3_7))
@[simp] def cc3_4_ap := seq_rule (c := cc3_4) rfl
def cc3_5 : SC := sSeq cc3_1 cc3_4
@[simp] def cc3_5_ap := seq_rule (c := cc3_5) rfl
def cc3_6 : SC := sSeq (sReg (seqI oc3_4)) cc3_5
@[simp] def cc3_6_ap := seq_rule (c := cc3_6) rfl
def cc3_7 : SC := sLoop cc3_6
def cc3_8 : SC := sBlock 0 cc3_7
@[simp] def cc3_8_ap := block_rule (c := cc3_8) rfl
def cc3_9 : SC := sSeq (sReg (seqI oc3_3)) cc3_8
@[simp] def cc3_9_ap := seq_rule (c := cc3_9) rfl
def oc3_8 : List IS := [ip 22 (pMov (tg 1)),
  ip 23 (pBin .eql (tg 22) (cv (.int .i64 14)))]
@[simp] def oc3_8_ap := ops_rule (c := oc3_8) rfl
def oc3_9 : List IS := [ip 24 (pMov (tg 2)),
  ip 25 (pShift .shr (tg 24) (cv (.int .u64 10))),
  ip 26 (pBin .and (tg 25) (cv (.int .u32 63))),
  ip 27 (pConvI .i64 (tg 26)),
  ip 28 (pBin .sub (cv (.int .i64 63)) (tg 27)),
  ip 29 (pIaddrA 5 1 (tg 7) (cv (.int .i64 3))),
  im0 3 (mStore 1 (tg 29) (tg 28))]
@[simp] def oc3_9_ap := ops_rule (c := oc3_9) rfl
def cc3_10 : SC := sCond (tg 23) (sReg (seqI oc3_9)) sSkip
@[simp] def cc3_10_ap := cond_rule (c := cc3_10) rfl
def cc3_11 : SC := sSeq (sReg (seqI oc3_8)) cc3_10
@[simp] def cc3_11_ap := seq_rule (c := cc3_11) rfl
def oc3_10 : List IS := [ip 30 (pMov (tg 1)),
  ip 31 (pIaddrA 5 1 (tg 7) (cv (.int .i64 0))),
  il 32 (tg 31) (mLoad1 (tg 31)),
  ip 33 (pIaddrA 5 1 (tg 7) (cv (.int .i64 1))),
  il 34 (tg 33) (mLoad1 (tg 33)),
  ip 35 (pIaddrA 5 1 (tg 7) (cv (.int .i64 2))),
  il 36 (tg 35) (mLoad1 (tg 35)),
  ip 37 (pIaddrA 5 1 (tg 7) (cv (.int .i64 3))),
  il 38 (tg 37) (mLoad1 (tg 37)),
  ip 39 (pIaddrA 5 1 (tg 7) (cv (.int .i64 4))),
  il 40 (tg 39) (mLoad1 (tg 39)),
  ip 41 (pBuild [(.int .i64 0), (.int .i64 0), (.int .i64 0), (.int .i64 0), (.int .i64 0), (.int .i64 0)] [(0, 1, (tg 30)), (1, 1, (tg 32)), (2, 1, (tg 34)), (3, 1, (tg 36)), (4, 1, (tg 38)), (5, 1, (tg 40))]),
  im0 3 (mStore 6 (tg 6) (tg 41))]
@[simp] def oc3_10_ap := ops_rule (c := oc3_10) rfl
def cc3_12 : SC := sSeq (sReg (seqI oc3_10)) sRet
@[simp] def cc3_12_ap := seq_rule (c := cc3_12) rfl
def cc3_13 : SC := sSeq cc3_11 cc3_12
@[simp] def cc3_13_ap := seq_rule (c := cc3_13) rfl
def cc3_14 : SC := sSeq cc3_9 cc3_13
@[simp] def cc3_14_ap := seq_rule (c := cc3_14) rfl
def cc3_15 : SC := sSeq (sReg (seqI oc3_2)) cc3_14
@[simp] def cc3_15_ap := seq_rule (c := cc3_15) rfl
def cc3_16 : SC := sSeq (sReg (seqI oc3_1)) cc3_15
@[simp] def cc3_16_ap := seq_rule (c := cc3_16) rfl
def dc3 : DFn := ⟨cc3_16, 42, [.cell 6 6]⟩
theorem dc3_ok : fnOf Try.prog 50 = some dc3 := by kernel_rfl
def oc4_1 : List IS := [im 1 2 (mBox (tg 0)),
  im 1 3 (mBox (tg 1)),
  ip 4 (pMov (cv (.bool false)))]
@[simp] def oc4_1_ap := ops_rule (c := oc4_1) rfl
def oc4_2 : List IS := [il 7 (tg 3) (mLoadN 6 (tg 3)),
  im 3 8 (mCall 71 [(tg 7)]),
  ip 9 (pMov (cv (.int .i64 0)))]
@[simp] def oc4_2_ap := ops_rule (c := oc4_2) rfl
def oc4_3 : List IS := [ip 10 (pBin .lss (tg 9) (cv (.int .i64 5)))]
@[simp] def oc4_3_ap := ops_rule (c := oc4_3) rfl
def cc4_1 : SC := sCond (tg 10) sSkip (sExit 0)
@[simp] def cc4_1_ap := cond_rule (c := cc4_1) rfl
def oc4_4 : List IS := [ip 11 (pMov (tg 9)),
  ip 12 (pIdx 5 false 1 (tg 8) (tg 9)),
  ip 5 (pMov (tg 11)),
  ip 6 (pMov (tg 12))]
@[simp] def oc4_4_ap := ops_rule (c := oc4_4) rfl
def oc4_5 : List IS := [ip 13 (pMov (tg 5)),
  ip 14 (pFaddr 1 (tg 2)),
  ip 15 (pIaddrA 5 6 (tg 14) (tg 13)),
  il 16 (tg 15) (mLoadN 6 (tg 15)),
  ip 17 (pMov (tg 6)),
  im 3 18 (mCall 72 [(tg 16), (tg 17)]),
  ip 19 (pUn .not (tg 18))]
@[simp] def oc4_5_ap := ops_rule (c := oc4_5) rfl
def oc4_6 : List IS := [ip 4 (pMov (cv (.bool false)))]
@[simp] def oc4_6_ap := ops_rule (c := oc4_6) rfl
def cc4_2 : SC := sSeq (sReg (seqI oc4_6)) sRet
@[simp] def cc4_2_ap := seq_rule (c := cc4_2) rfl
def cc4_3 : SC := sCond (tg 19) cc4_2 sSkip
@[simp] def cc4_3_ap := cond_rule (c := cc4_3) rfl
def cc4_4 : SC := sSeq (sReg (seqI oc4_5)) cc4_3
@[simp] def cc4_4_ap := seq_rule (c := cc4_4) rfl
def cc4_5 : SC := sSeq (sReg (seqI oc4_4)) cc4_4
@[simp] def cc4_5_ap := seq_rule (c := cc4_5) rfl
def cc4_6 : SC := sBlock 1 cc4_5
@[simp] def cc4_6_ap := block_rule (c := cc4_6) rfl
def oc4_7 : List IS := [ip 20 (pBin .add (tg 9) (cv (.int .i64 1))),
  ip 9 (pMov (tg 20))]
@[simp] def oc4_7_ap := ops_rule (c := oc4_7) rfl
def cc4_7 : SC := sSeq cc4_6 (sReg (seqI oc4_7))
@[simp] def cc4_7_ap := seq_rule (c := cc4_7) rfl
def cc4_8 : SC := sSeq cc4_1 cc4_7
@[simp] def cc4_8_ap := seq_rule (c := cc4_8) rfl
def cc4_9 : SC := sSeq (sReg (seqI oc4_3)) cc4_8
@[simp] def cc4_9_ap := seq_rule (c := cc4_9) rfl
def cc4_10 : SC := sLoop cc4_9
def cc4_11 : SC := sBlock 0 cc4_10
@[simp] def cc4_11_ap := block_rule (c := cc4_11) rfl
def cc4_12 : SC := sSeq (sReg (seqI oc4_2)) cc4_11
@[simp] def cc4_12_ap := seq_rule (c := cc4_12) rfl
def oc4_8 : List IS := [ip 21 (pFaddr 0 (tg 3)),
  il 22 (tg 21) (mLoad1 (tg 21))]
@[simp] def oc4_8_ap := ops_rule (c := oc4_8) rfl
def oc4_9 : List IS := [ip 24 (pBin .eql (tg 22) (cv (.int .i64 14))),
  ip 23 (pMov (tg 24))]
@[simp] def oc4_9_ap := ops_rule (c := oc4_9) rfl
def oc4_10 : List IS := [ip 25 (pFaddr 4 (tg 3)),
  il 26 (tg 25) (mLoad1 (tg 25)),
  ip 27 (pBin .geq (tg 26) (cv (.int .i64 1))),
  ip 4 (pMov (tg 27))]
@[simp] def oc4_10_ap := ops_rule (c := oc4_10) rfl
def cc4_13 : SC := sSeq (sReg (seqI oc4_10)) sRet
@[simp] def cc4_13_ap := seq_rule (c := cc4_13) rfl
def oc4_11 : List IS := [ip 29 (pBin .eql (tg 22) (cv (.int .i64 28))),
  ip 28 (pMov (tg 29))]
@[simp] def oc4_11_ap := ops_rule (c := oc4_11) rfl
def oc4_12 : List IS := [ip 30 (pBin .eql (tg 22) (cv (.int .i64 29))),
  ip 28 (pMov (tg 30))]
@[simp] def oc4_12_ap := ops_rule (c := oc4_12) rfl
def cc4_14 : SC := sCond (tg 28) sSkip (sReg (seqI oc4_12))
@[simp] def cc4_14_ap := cond_rule (c := cc4_14) rfl
def cc4_15 : SC := sSeq (sReg (seqI oc4_11)) cc4_14
@[simp] def cc4_15_ap := seq_rule (c := cc4_15) rfl
def oc4_13 : List IS := [ip 31 (pFaddr 3 (tg 3)),
  il 32 (tg 31) (mLoad1 (tg 31)),
  ip 33 (pFaddr 1 (tg 3)),
  il 34 (tg 33) (mLoad1 (tg 33)),
  ip 35 (pBin .neq (tg 32) (tg 34)),
  ip 36 (pMov (tg 35)),
  gd 36 true (some 37) (ip 37 (pFaddr 3 (tg 3))),
  gd 36 true (some 38) (il 38 (tg 37) (mLoad1 (tg 37))),
  gd 36 true (some 39) (ip 39 (pFaddr 2 (tg 3))),
  gd 36 true (some 40) (il 40 (tg 39) (mLoad1 (tg 39))),
  gd 36 true (some 41) (ip 41 (pBin .neq (tg 38) (tg 40))),
  ip 42 (pPick (tg 36) (tg 41) (cv (.bool false))),
  ip 4 (pMov (tg 42))]
@[simp] def oc4_13_ap := ops_rule (c := oc4_13) rfl
def cc4_16 : SC := sSeq (sReg (seqI oc4_13)) sRet
@[simp] def cc4_16_ap := seq_rule (c := cc4_16) rfl
def cc4_17 : SC := sCond (tg 28) cc4_16 sSkip
@[simp] def cc4_17_ap := cond_rule (c := cc4_17) rfl
def cc4_18 : SC := sSeq cc4_15 cc4_17
@[simp] def cc4_18_ap := seq_rule (c := cc4_18) rfl
def cc4_19 : SC := sCond (tg 23) cc4_13 cc4_18
@[simp] def cc4_19_ap := cond_rule (c := cc4_19) rfl
def cc4_20 : SC := sSeq (sReg (seqI oc4_9)) cc4_19
@[simp] def cc4_20_ap := seq_rule (c := cc4_20) rfl
def cc4_21 : SC := sBlock 2 cc4_20
@[simp] def cc4_21_ap := block_rule (c := cc4_21) rfl
def cc4_22 : SC := sSeq (sReg (seqI oc4_8)) cc4_21
@[simp] def cc4_22_ap := seq_rule (c := cc4_22) rfl
def oc4_14 : List IS := [ip 4 (pMov (cv (.bool true)))]
@[simp] def oc4_14_ap := ops_rule (c := oc4_14) rfl
def cc4_23 : SC := sSeq (sReg (seqI oc4_14)) sRet
@[simp] def cc4_23_ap := seq_rule (c := cc4_23) rfl
def cc4_24 : SC := sSeq cc4_22 cc4_23
@[simp] def cc4_24_ap := seq_rule (c := cc4_24) rfl
def cc4_25 : SC := sSeq cc4_12 cc4_24
@[simp] def cc4_25_ap := seq_rule (c := cc4_25) rfl
def cc4_26 : SC := sSeq (sReg (seqI oc4_1)) cc4_25
@[simp] def cc4_26_ap := seq_rule (c := cc4_26) rfl
def dc4 : DFn := ⟨cc4_26, 43, [.t 4]⟩
theorem dc4_ok : fnOf Try.prog 51 = some dc4 := by kernel_rfl
def oc5_1 : List IS := [im 1 2 (mBox (tg 0)),
  im 1 3 (mBox (tg 1)),
  ip 4 (pMov (cv (.int .u32 0)))]
@[simp] def oc5_1_ap := ops_rule (c := oc5_1) rfl
def oc5_2 : List IS := [ip 8 (pFaddr 0 (tg 2)),
  il 9 (tg 8) (mLoad1 (tg 8)),
  ip 5 (pMov (tg 9))]
@[simp] def oc5_2_ap := ops_rule (c := oc5_2) rfl
def oc5_3 : List IS := [il 10 (tg 3) (mLoadN 6 (tg 3)),
  im 3 11 (mCall 71 [(tg 10)]),
  ip 12 (pMov (cv (.int .i64 0)))]
@[simp] def oc5_3_ap := ops_rule (c := oc5_3) rfl
def oc5_4 : List IS := [ip 13 (pBin .lss (tg 12) (cv (.int .i64 5)))]
@[simp] def oc5_4_ap := ops_rule (c := oc5_4) rfl
def cc5_1 : SC := sCond (tg 13) sSkip (sExit 0)
@[simp] def cc5_1_ap := cond_rule (c := cc5_1) rfl
def oc5_5 : List IS := [ip 14 (pMov (tg 12)),
  ip 15 (pIdx 5 false 1 (tg 11) (tg 12)),
  ip 6 (pMov (tg 14)),
  ip 7 (pMov (tg 15))]
@[simp] def oc5_5_ap := ops_rule (c := oc5_5) rfl
def oc5_6 : List IS := [ip 16 (pMov (tg 5)),
  ip 17 (pMov (tg 6)),
  ip 18 (pFaddr 1 (tg 2)),
  ip 19 (pIaddrA 5 6 (tg 18) (tg 17)),
  il 20 (tg 19) (mLoadN 6 (tg 19)),
  ip 21 (pMov (tg 7)),
  im 3 22 (mCall 73 [(tg 20), (tg 21)]),
  ip 23 (pBin .or (tg 16) (tg 22)),
  ip 5 (pMov (tg 23))]
@[simp] def oc5_6_ap := ops_rule (c := oc5_6) rfl
def cc5_2 : SC := sSeq (sReg (seqI oc5_5)) (sReg (seqI oc5_6))
@[simp] def cc5_2_ap := seq_rule (c := cc5_2) rfl
def cc5_3 : SC := sBlock 1 cc5_2
@[simp] def cc5_3_ap := block_rule (c := cc5_3) rfl
def oc5_7 : List IS := [ip 24 (pBin .add (tg 12) (cv (.int .i64 1))),
  ip 12 (pMov (tg 24))]
@[simp] def oc5_7_ap := ops_rule (c := oc5_7) rfl
def cc5_4 : SC := sSeq cc5_3 (sReg (seqI oc5_7))
@[simp] def cc5_4_ap := seq_rule (c := cc5_4) rfl
def cc5_5 : SC := sSeq cc5_1 cc5_4
@[simp] def cc5_5_ap := seq_rule (c := cc5_5) rfl
def cc5_6 : SC := sSeq (sReg (seqI oc5_4)) cc5_5
@[simp] def cc5_6_ap := seq_rule (c := cc5_6) rfl
def cc5_7 : SC := sLoop cc5_6
def cc5_8 : SC := sBlock 0 cc5_7
@[simp] def cc5_8_ap := block_rule (c := cc5_8) rfl
def cc5_9 : SC := sSeq (sReg (seqI oc5_3)) cc5_8
@[simp] def cc5_9_ap := seq_rule (c := cc5_9) rfl
def oc5_8 : List IS := [ip 25 (pFaddr 0 (tg 3)),
  il 26 (tg 25) (mLoad1 (tg 25)),
  ip 27 (pBin .eql (tg 26) (cv (.int .i64 14)))]
@[simp] def oc5_8_ap := ops_rule (c := oc5_8) rfl
def oc5_9 : List IS := [ip 28 (pMov (tg 5)),
  ip 29 (pFaddr 4 (tg 3)),
  il 30 (tg 29) (mLoad1 (tg 29)),
  ip 31 (pBin .sub (cv (.int .i64 64)) (tg 30)),
  ip 32 (pConvI .u32 (tg 31)),
  ip 33 (pShift .shl (tg 32) (cv (.int .u64 16))),
  ip 34 (pFaddr 4 (tg 3)),
  il 35 (tg 34) (mLoad1 (tg 34)),
  ip 36 (pBin .sub (cv (.int .i64 63)) (tg 35)),
  ip 37 (pConvI .u32 (tg 36)),
  ip 38 (pShift .shl (tg 37) (cv (.int .u64 10))),
  ip 39 (pBin .or (tg 33) (tg 38)),
  ip 40 (pBin .or (tg 28) (tg 39)),
  ip 5 (pMov (tg 40))]
@[simp] def oc5_9_ap := ops_rule (c := oc5_9) rfl
def cc5_10 : SC := sCond (tg 27) (sReg (seqI oc5_9)) sSkip
@[simp] def cc5_10_ap := cond_rule (c := cc5_10) rfl
def cc5_11 : SC := sSeq (sReg (seqI oc5_8)) cc5_10
@[simp] def cc5_11_ap := seq_rule (c := cc5_11) rfl
def oc5_10 : List IS := [ip 41 (pMov (tg 5)),
  ip 4 (pMov (tg 41))]
@[simp] def oc5_10_ap := ops_rule (c := oc5_10) rfl
def cc5_12 : SC := sSeq (sReg (seqI oc5_10)) sRet
@[simp] def cc5_12_ap := seq_rule (c := cc5_12) rfl
def cc5_13 : SC := sSeq cc5_11 cc5_12
@[simp] def cc5_13_ap := seq_rule (c := cc5_13) rfl
def cc5_14 : SC := sSeq cc5_9 cc5_13
@[simp] def cc5_14_ap := seq_rule (c := cc5_14) rfl
def cc5_15 : SC := sSeq (sReg (seqI oc5_2)) cc5_14
@[simp] def cc5_15_ap := seq_rule (c := cc5_15) rfl
def cc5_16 : SC := sSeq (sReg (seqI oc5_1)) cc5_15
@[simp] def cc5_16_ap := seq_rule (c := cc5_16) rfl
def dc5 : DFn := ⟨cc5_16, 42, [.t 4]⟩
theorem dc5_ok : fnOf Try.prog 52 = some dc5 := by kernel_rfl
def od1_1 : List IS := [ip 2 (pMov (cv (.int .u32 0)))]
@[simp] def od1_1_ap := ops_rule (c := od1_1) rfl
def od1_2 : List IS := [ip 3 (pBuild [(.int .u32 0), (.int .u32 0), (.int .u32 0), (.int .u32 0), (.int .u32 0), (.int .u32 0), (.int .u32 0), (.int .u32 0), (.int .u32 0), (.int .u32 0), (.int .u32 0), (.int .u32 0), (.int .u32 0), (.int .u32 0), (.int .u32 0), (.int .u32 0), (.int .u32 0), (.int .u32 0), (.int .u32 0), (.int .u32 0), (.int .u32 0), (.int .u32 0), (.int .u32 0), (.int .u32 0), (.int .u32 0), (.int .u32 0), (.int .u32 0), (.int .u32 0), (.int .u32 0), (.int .u32 0), (.int .u32 0), (.int .u32 0), (.int .u32 0), (.int .u32 0), (.int .u32 0), (.int .u32 0), (.int .u32 0), (.int .u32 0), (.int .u32 0), (.int .u32 0), (.int .u32 0), (.int .u32 0), (.int .u32 0), (.int .u32 0), (.int .u32 0), (.int .u32 0), (.int .u32 0), (.int .u32 0)] [(0, 1, (cv (.int .u32 0))), (1, 1, (cv (.int .u32 3531603968))), (2, 1, (cv (.int .u32 4068474880))), (3, 1, (cv (.int .u32 2332033024))), (4, 1, (cv (.int .u32 3405774848))), (5, 1, (cv (.int .u32 2315255808))), (6, 1, (cv (.int .u32 2852126720))), (7, 1, (cv (.int .u32 3388997632))), (8, 1, (cv (.int .u32 2854223872))), (9, 1, (cv (.int .u32 2600500224))), (10, 1, (cv (.int .u32 2596282368))), (11, 1, (cv (.int .u32 2596283392))), (12, 1, (cv (.int .u32 2432696320))), (13, 1, (cv (.int .u32 3506438144))), (14, 1, (cv (.int .u32 3544186880))), (15, 1, (cv (.int .u32 3544251392))), (16, 1, (cv (.int .u32 3942645791))), (17, 1, (cv (.int .u32 2594113504))), (18, 1, (cv (.int .u32 335544320))), (19, 1, (cv (.int .u32 1409286144))), (20, 1, (cv (.int .u32 3019898880))), (21, 1, (cv (.int .u32 3036676096))), (22, 1, (cv (.int .u32 4181721088))), (23, 1, (cv (.int .u32 4177526784))), (24, 1, (cv (.int .u32 3370122240))), (25, 1, (cv (.int .u32 3365927936))), (26, 1, (cv (.int .u32 3361700864))), (27, 1, (cv (.int .u32 3361733632))), (28, 1, (cv (.int .u32 3355474944))), (29, 1, (cv (.int .u32 3355507712))), (30, 1, (cv (.int .u32 0))), (31, 1, (cv (.int .u32 0))), (32, 1, (cv (.int .u32 0))), (33, 1, (cv (.int .u32 3556769793))), (34, 1, (cv (.int .u32 0))), (35, 1, (cv (.int .u32 4173316096))), (36, 1, (cv (.int .u32 3365960704))), (37, 1, (cv (.int .u32 3370155008))), (38, 1, (cv (.int .u32 3365993472))), (39, 1, (cv (.int .u32 3370187776))), (40, 1, (cv (.int .u32 4162879488))), (41, 1, (cv (.int .u32 4171268096))), (42, 1, (cv (.int .u32 4167073792))), (43, 1, (cv (.int .u32 4175462400))), (44, 1, (cv (.int .u32 4162846720))), (45, 1, (cv (.int .u32 4171235328))), (46, 1, (cv (.int .u32 4167041024))), (47, 1, (cv (.int .u32 4175429632)))]),
  ip 4 (pMov (tg 0)),
  ip 5 (pIdx 48 false 1 (tg 3) (tg 4)),
  ip 2 (pMov (tg 5))]
@[simp] def od1_2_ap := ops_rule (c := od1_2) rfl
def cd1_1 : SC := sSeq (sReg (seqI od1_2)) sRet
@[simp] def cd1_1_ap := seq_rule (c := cd1_1) rfl
def cd1_2 : SC := sSeq (sReg (seqI od1_1)) cd1_1
@[simp] def cd1_2_ap := seq_rule (c := cd1_2) rfl
def dd1 : DFn := ⟨cd1_2, 6, [.t 2]⟩
theorem dd1_ok : fnOf Try.prog 65 = some dd1 := by kernel_rfl
def od2_1 : List IS := [im 1 2 (mAlloc [(.int .i64 0), (.int .i64 0), (.int .i64 0), (.int .i64 0), (.int .i64 0), (.bool false)])]
@[simp] def od2_1_ap := ops_rule (c := od2_1) rfl
def od2_2 : List IS := [ip 3 (pMov (tg 0)),
  ip 4 (pBuild [(.int .i64 0), (.int .i64 0), (.int .i64 0), (.int .i64 0), (.int .i64 0), (.bool false)] [(0, 1, (tg 3)), (1, 1, (cv (.int .i64 5))), (3, 1, (cv (.int .i64 31))), (4, 1, (cv (.int .i64 1)))]),
  im0 3 (mStore 6 (tg 2) (tg 4))]
@[simp] def od2_2_ap := ops_rule (c := od2_2) rfl
def cd2_1 : SC := sSeq (sReg (seqI od2_2)) sRet
@[simp] def cd2_1_ap := seq_rule (c := cd2_1) rfl
def cd2_2 : SC := sSeq (sReg (seqI od2_1)) cd2_1
@[simp] def cd2_2_ap := seq_rule (c := cd2_2) rfl
def dd2 : DFn := ⟨cd2_2, 5, [.cell 2 6]⟩
theorem dd2_ok : fnOf Try.prog 66 = some dd2 := by kernel_rfl
def od3_1 : List IS := [im 1 8 (mAlloc [(.int .i64 0), (.int .i64 0), (.int .i64 0), (.int .i64 0), (.int .i64 0), (.bool false)])]
@[simp] def od3_1_ap := ops_rule (c := od3_1) rfl
def od3_2 : List IS := [ip 9 (pMov (tg 0)),
  ip 10 (pMov (tg 1)),
  ip 11 (pMov (tg 2)),
  ip 12 (pMov (tg 3)),
  ip 13 (pBuild [(.int .i64 0), (.int .i64 0), (.int .i64 0), (.int .i64 0), (.int .i64 0), (.bool false)] [(0, 1, (tg 9)), (1, 1, (tg 10)), (3, 1, (tg 11)), (4, 1, (tg 12))]),
  im0 3 (mStore 6 (tg 8) (tg 13))]
@[simp] def od3_2_ap := ops_rule (c := od3_2) rfl
def cd3_1 : SC := sSeq (sReg (seqI od3_2)) sRet
@[simp] def cd3_1_ap := seq_rule (c := cd3_1) rfl
def cd3_2 : SC := sSeq (sReg (seqI od3_1)) cd3_1
@[simp] def cd3_2_ap := seq_rule (c := cd3_2) rfl
def dd3 : DFn := ⟨cd3_2, 14, [.cell 8 6]⟩
theorem dd3_ok : fnOf Try.prog 67 = some dd3 := by kernel_rfl
def od4_1 : List IS := [im 1 2 (mAlloc [(.int .i64 0), (.int .i64 0), (.int .i64 0), (.int .i64 0), (.int .i64 0), (.bool false)])]
@[simp] def od4_1_ap := ops_rule (c := od4_1) rfl
def od4_2 : List IS := [ip 3 (pMov (tg 0)),
  ip 4 (pBuild [(.int .i64 0), (.int .i64 0), (.int .i64 0), (.int .i64 0), (.int .i64 0), (.bool false)] [(0, 1, (tg 3)), (1, 1, (cv (.int .i64 5))), (3, 1, (cv (.int .i64 30))), (4, 1, (cv (.int .i64 1)))]),
  im0 3 (mStore 6 (tg 2) (tg 4))]
@[simp] def od4_2_ap := ops_rule (c := od4_2) rfl
def cd4_1 : SC := sSeq (sReg (seqI od4_2)) sRet
@[simp] def cd4_1_ap := seq_rule (c := cd4_1) rfl
def cd4_2 : SC := sSeq (sReg (seqI od4_1)) cd4_1
@[simp] def cd4_2_ap := seq_rule (c := cd4_2) rfl
def dd4 : DFn := ⟨cd4_2, 5, [.cell 2 6]⟩
theorem dd4_ok : fnOf Try.prog 68 = some dd4 := by kernel_rfl
def od5_1 : List IS := [im 1 4 (mAlloc [(.int .i64 0), (.int .i64 0), (.int .i64 0), (.int .i64 0), (.int .i64 0), (.bool false)])]
@[simp] def od5_1_ap := ops_rule (c := od5_1) rfl
def od5_2 : List DA := [⟨CI.pure (pMov (tg 0)), (some 5), none, 0, []⟩,
  ⟨CI.pure (pMov (tg 1)), (some 6), none, 1, []⟩,
  ⟨CI.pure (pMov (tg 1)), (some 7), none, 2, []⟩,
  ⟨CI.pure (pBin .sub (tg 7) (cv (.int .i64 1))), (some 8), none, 3, []⟩,
  ⟨CI.pure (pShift .shl (cv (.int .i64 (-1))) (tg 8)), (some 9), none, 4, []⟩,
  ⟨CI.pure (pMov (tg 1)), (some 10), none, 5, []⟩,
  ⟨CI.pure (pBin .sub (tg 10) (cv (.int .i64 1))), (some 11), none, 6, []⟩,
  ⟨CI.pure (pShift .shl (cv (.int .i64 1)) (tg 11)), (some 12), none, 7, []⟩,
  ⟨CI.pure (pBin .sub (tg 12) (cv (.int .i64 1))), (some 13), none, 8, []⟩,
  ⟨CI.pure (pBuild [(.int .i64 0), (.int .i64 0), (.int .i64 0), (.int .i64 0), (.int .i64 0), (.bool false)] [(0, 1, (tg 5)), (1, 1, (tg 6)), (2, 1, (tg 9)), (3, 1, (tg 13)), (4, 1, (cv (.int .i64 1)))]), (some 14), none, 9, []⟩,
  ⟨CI.mem 3 (mStore 6 (tg 4) (tg 14)), none, none, 10, []⟩]
@[simp] def od5_2_ap := das_rule (c := od5_2) rfl
def cd5_1 : SC := sSeq (sAny od5_2) sRet
@[simp] def cd5_1_ap := seq_rule (c := cd5_1) rfl
def cd5_2 : SC := sSeq (sReg (seqI od5_1)) cd5_1
@[simp] def cd5_2_ap := seq_rule (c := cd5_2) rfl
def dd5 : DFn := ⟨cd5_2, 15, [.cell 4 6]⟩
theorem dd5_ok : fnOf Try.prog 69 = some dd5 := by kernel_rfl
def od6_1 : List IS := [im 1 2 (mBox (tg 0)),
  ip 4 (pMov (cv (.int .i64 0)))]
@[simp] def od6_1_ap := ops_rule (c := od6_1) rfl
def od6_2 : List IS := [ip 6 (pFaddr 1 (tg 2)),
  il 7 (tg 6) (mLoad1 (tg 6)),
  ip 8 (pBin .eql (tg 7) (cv (.int .i64 0)))]
@[simp] def od6_2_ap := ops_rule (c := od6_2) rfl
def od6_3 : List IS := [ip 4 (pMov (cv (.int .i64 0)))]
@[simp] def od6_3_ap := ops_rule (c := od6_3) rfl
def cd6_1 : SC := sSeq (sReg (seqI od6_3)) sRet
@[simp] def cd6_1_ap := seq_rule (c := cd6_1) rfl
def cd6_2 : SC := sCond (tg 8) cd6_1 sSkip
@[simp] def cd6_2_ap := cond_rule (c := cd6_2) rfl
def cd6_3 : SC := sSeq (sReg (seqI od6_2)) cd6_2
@[simp] def cd6_3_ap := seq_rule (c := cd6_3) rfl
def od6_4 : List DA := [⟨CI.pure (pMov (tg 1)), (some 9), none, 0, []⟩,
  ⟨CI.pure (pFaddr 0 (tg 2)), (some 10), none, 1, []⟩,
  ⟨CI.load (tg 10) (mLoad1 (tg 10)), (some 11), none, 2, []⟩,
  ⟨CI.pure (pShift .shr (tg 9) (tg 11)), (some 12), none, 3, []⟩,
  ⟨CI.pure (pFaddr 1 (tg 2)), (some 13), none, 4, []⟩,
  ⟨CI.load (tg 13) (mLoad1 (tg 13)), (some 14), none, 5, []⟩,
  ⟨CI.pure (pShift .shl (cv (.int .u32 1)) (tg 14)), (some 15), none, 6, []⟩,
  ⟨CI.pure (pBin .sub (tg 15) (cv (.int .u32 1))), (some 16), none, 7, []⟩,
  ⟨CI.pure (pBin .and (tg 12) (tg 16)), (some 17), none, 8, []⟩,
  ⟨CI.pure (pConvI .i64 (tg 17)), (some 18), none, 9, []⟩,
  ⟨CI.pure (pMov (tg 18)), (some 5), none, 10, []⟩]
@[simp] def od6_4_ap := das_rule (c := od6_4) rfl
def od6_5 : List IS := [ip 19 (pFaddr 5 (tg 2)),
  il 20 (tg 19) (mLoad1 (tg 19))]
@[simp] def od6_5_ap := ops_rule (c := od6_5) rfl
def od6_6 : List IS := [ip 21 (pMov (tg 5)),
  ip 22 (pBin .xor (tg 21) (cv (.int .i64 1))),
  ip 5 (pMov (tg 22))]
@[simp] def od6_6_ap := ops_rule (c := od6_6) rfl
def cd6_4 : SC := sCond (tg 20) (sReg (seqI od6_6)) sSkip
@[simp] def cd6_4_ap := cond_rule (c := cd6_4) rfl
def cd6_5 : SC := sSeq (sReg (seqI od6_5)) cd6_4
@[simp] def cd6_5_ap := seq_rule (c := cd6_5) rfl
def od6_7 : List IS := [ip 23 (pFaddr 2 (tg 2)),
  il 24 (tg 23) (mLoad1 (tg 23)),
  ip 25 (pBin .lss (tg 24) (cv (.int .i64 0))),
  ip 26 (pMov (tg 25)),
  gd 26 true (some 27) (ip 27 (pMov (tg 5))),
  gd 26 true (some 28) (ip 28 (pFaddr 1 (tg 2))),
  gd 26 true (some 29) (il 29 (tg 28) (mLoad1 (tg 28))),
  gd 26 true (some 30) (ip 30 (pBin .sub (tg 29) (cv (.int .i64 1)))),
  gd 26 true (some 31) (ip 31 (pShift .shl (cv (.int .i64 1)) (tg 30))),
  gd 26 true (some 32) (ip 32 (pBin .geq (tg 27) (tg 31))),
  ip 33 (pPick (tg 26) (tg 32) (cv (.bool false)))]
@[simp] def od6_7_ap := ops_rule (c := od6_7) rfl
def od6_8 : List IS := [ip 34 (pMov (tg 5)),
  ip 35 (pFaddr 1 (tg 2)),
  il 36 (tg 35) (mLoad1 (tg 35)),
  ip 37 (pShift .shl (cv (.int .i64 1)) (tg 36)),
  ip 38 (pBin .sub (tg 34) (tg 37)),
  ip 5 (pMov (tg 38))]
@[simp] def od6_8_ap := ops_rule (c := od6_8) rfl
def cd6_6 : SC := sCond (tg 33) (sReg (seqI od6_8)) sSkip
@[simp] def cd6_6_ap := cond_rule (c := cd6_6) rfl
def cd6_7 : SC := sSeq (sReg (seqI od6_7)) cd6_6
@[simp] def cd6_7_ap := seq_rule (c := cd6_7) rfl
def od6_9 : List IS := [ip 39 (pMov (tg 5)),
  ip 40 (pFaddr 4 (tg 2)),
  il 41 (tg 40) (mLoad1 (tg 40)),
  ip 42 (pBin .mul (tg 39) (tg 41)),
  ip 4 (pMov (tg 42))]
@[simp] def od6_9_ap := ops_rule (c := od6_9) rfl
def cd6_8 : SC := sSeq (sReg (seqI od6_9)) sRet
@[simp] def cd6_8_ap := seq_rule (c := cd6_8) rfl
def cd6_9 : SC := sSeq cd6_7 cd6_8
@[simp] def cd6_9_ap := seq_rule (c := cd6_9) rfl
def cd6_10 : SC := sSeq cd6_5 cd6_9
@[simp] def cd6_10_ap := seq_rule (c := cd6_10) rfl
def cd6_11 : SC := sSeq (sAny od6_4) cd6_10
@[simp] def cd6_11_ap := seq_rule (c := cd6_11) rfl
def cd6_12 : SC := sSeq cd6_3 cd6_11
@[simp] def cd6_12_ap := seq_rule (c := cd6_12) rfl
def cd6_13 : SC := sSeq (sReg (seqI od6_1)) cd6_12
@[simp] def cd6_13_ap := seq_rule (c := cd6_13) rfl
def dd6 : DFn := ⟨cd6_13, 43, [.t 4]⟩
theorem dd6_ok : fnOf Try.prog 70 = some dd6 := by kernel_rfl
def od7_1 : List IS := [im 1 1 (mBox (tg 0)),
  im 1 2 (mAlloc [(.int .i64 0), (.int .i64 0), (.int .i64 0), (.int .i64 0), (.int .i64 0)])]
@[simp] def od7_1_ap := ops_rule (c := od7_1) rfl
def od7_2 : List IS := [ip 3 (pFaddr 1 (tg 1)),
  il 4 (tg 3) (mLoad1 (tg 3)),
  ip 5 (pFaddr 2 (tg 1)),
  il 6 (tg 5) (mLoad1 (tg 5)),
  ip 7 (pFaddr 3 (tg 1)),
  il 8 (tg 7) (mLoad1 (tg 7)),
  ip 9 (pFaddr 4 (tg 1)),
  il 10 (tg 9) (mLoad1 (tg 9)),
  ip 11 (pFaddr 5 (tg 1)),
  il 12 (tg 11) (mLoad1 (tg 11)),
  ip 13 (pBuild [(.int .i64 0), (.int .i64 0), (.int .i64 0), (.int .i64 0), (.int .i64 0)] [(0, 1, (tg 4)), (1, 1, (tg 6)), (2, 1, (tg 8)), (3, 1, (tg 10)), (4, 1, (tg 12))]),
  im0 3 (mStore 5 (tg 2) (tg 13))]
@[simp] def od7_2_ap := ops_rule (c := od7_2) rfl
def cd7_1 : SC := sSeq (sReg (seqI od7_2)) sRet
@[simp] def cd7_1_ap := seq_rule (c := cd7_1) rfl
def cd7_2 : SC := sSeq (sReg (seqI od7_1)) cd7_1
@[simp] def cd7_2_ap := seq_rule (c := cd7_2) rfl
def dd7 : DFn := ⟨cd7_2, 14, [.cell 2 5]⟩
theorem dd7_ok : fnOf Try.prog 71 = some dd7 := by kernel_rfl
def od8_1 : List IS := [im 1 2 (mBox (tg 0)),
  ip 4 (pMov (cv (.bool false)))]
@[simp] def od8_1_ap := ops_rule (c := od8_1) rfl
def od8_2 : List IS := [ip 5 (pFaddr 4 (tg 2)),
  il 6 (tg 5) (mLoad1 (tg 5)),
  ip 7 (pBin .eql (tg 6) (cv (.int .i64 0)))]
@[simp] def od8_2_ap := ops_rule (c := od8_2) rfl
def od8_3 : List IS := [ip 8 (pMov (tg 1)),
  ip 9 (pBin .eql (tg 8) (cv (.int .i64 0))),
  ip 4 (pMov (tg 9))]
@[simp] def od8_3_ap := ops_rule (c := od8_3) rfl
def cd8_1 : SC := sSeq (sReg (seqI od8_3)) sRet
@[simp] def cd8_1_ap := seq_rule (c := cd8_1) rfl
def cd8_2 : SC := sCond (tg 7) cd8_1 sSkip
@[simp] def cd8_2_ap := cond_rule (c := cd8_2) rfl
def cd8_3 : SC := sSeq (sReg (seqI od8_2)) cd8_2
@[simp] def cd8_3_ap := seq_rule (c := cd8_3) rfl
def od8_4 : List IS := [ip 10 (pMov (tg 1)),
  ip 11 (pFaddr 2 (tg 2)),
  il 12 (tg 11) (mLoad1 (tg 11)),
  ip 13 (pBin .geq (tg 10) (tg 12)),
  ip 14 (pMov (tg 13)),
  gd 14 true (some 15) (ip 15 (pMov (tg 1))),
  gd 14 true (some 16) (ip 16 (pFaddr 3 (tg 2))),
  gd 14 true (some 17) (il 17 (tg 16) (mLoad1 (tg 16))),
  gd 14 true (some 18) (ip 18 (pBin .leq (tg 15) (tg 17))),
  ip 19 (pPick (tg 14) (tg 18) (cv (.bool false))),
  ip 20 (pMov (tg 19)),
  gd 20 true (some 21) (ip 21 (pMov (tg 1))),
  gd 20 true (some 22) (ip 22 (pFaddr 4 (tg 2))),
  gd 20 true (some 23) (il 23 (tg 22) (mLoad1 (tg 22))),
  gd 20 true (some 24) (ip 24 (pBin .rem (tg 21) (tg 23))),
  gd 20 true (some 25) (ip 25 (pBin .eql (tg 24) (cv (.int .i64 0)))),
  ip 26 (pPick (tg 20) (tg 25) (cv (.bool false))),
  ip 4 (pMov (tg 26))]
@[simp] def od8_4_ap := ops_rule (c := od8_4) rfl
def cd8_4 : SC := sSeq (sReg (seqI od8_4)) sRet
@[simp] def cd8_4_ap := seq_rule (c := cd8_4) rfl
def cd8_5 : SC := sSeq cd8_3 cd8_4
@[simp] def cd8_5_ap := seq_rule (c := cd8_5) rfl
def cd8_6 : SC := sSeq (sReg (seqI od8_1)) cd8_5
@[simp] def cd8_6_ap := seq_rule (c := cd8_6) rfl
def dd8 : DFn := ⟨cd8_6, 27, [.t 4]⟩
theorem dd8_ok : fnOf Try.prog 72 = some dd8 := by kernel_rfl
def od9_1 : List IS := [im 1 2 (mBox (tg 0)),
  ip 4 (pMov (cv (.int .u32 0)))]
@[simp] def od9_1_ap := ops_rule (c := od9_1) rfl
def od9_2 : List IS := [ip 6 (pFaddr 1 (tg 2)),
  il 7 (tg 6) (mLoad1 (tg 6)),
  ip 8 (pBin .eql (tg 7) (cv (.int .i64 0)))]
@[simp] def od9_2_ap := ops_rule (c := od9_2) rfl
def od9_3 : List IS := [ip 4 (pMov (cv (.int .u32 0)))]
@[simp] def od9_3_ap := ops_rule (c := od9_3) rfl
def cd9_1 : SC := sSeq (sReg (seqI od9_3)) sRet
@[simp] def cd9_1_ap := seq_rule (c := cd9_1) rfl
def cd9_2 : SC := sCond (tg 8) cd9_1 sSkip
@[simp] def cd9_2_ap := cond_rule (c := cd9_2) rfl
def cd9_3 : SC := sSeq (sReg (seqI od9_2)) cd9_2
@[simp] def cd9_3_ap := seq_rule (c := cd9_3) rfl
def od9_4 : List DA := [⟨CI.pure (pMov (tg 1)), (some 9), none, 0, []⟩,
  ⟨CI.pure (pFaddr 4 (tg 2)), (some 10), none, 1, []⟩,
  ⟨CI.load (tg 10) (mLoad1 (tg 10)), (some 11), none, 2, []⟩,
  ⟨CI.pure (pBin .quo (tg 9) (tg 11)), (some 12), none, 3, []⟩,
  ⟨CI.pure (pConvI .u32 (tg 12)), (some 13), none, 4, []⟩,
  ⟨CI.pure (pFaddr 1 (tg 2)), (some 14), none, 5, []⟩,
  ⟨CI.load (tg 14) (mLoad1 (tg 14)), (some 15), none, 6, []⟩,
  ⟨CI.pure (pShift .shl (cv (.int .u32 1)) (tg 15)), (some 16), none, 7, []⟩,
  ⟨CI.pure (pBin .sub (tg 16) (cv (.int .u32 1))), (some 17), none, 8, []⟩,
  ⟨CI.pure (pBin .and (tg 13) (tg 17)), (some 18), none, 9, []⟩,
  ⟨CI.pure (pMov (tg 18)), (some 5), none, 10, []⟩]
@[simp] def od9_4_ap := das_rule (c := od9_4) rfl
def od9_5 : List IS := [ip 19 (pFaddr 5 (tg 2)),
  il 20 (tg 19) (mLoad1 (tg 19))]
@[simp] def od9_5_ap := ops_rule (c := od9_5) rfl
def od9_6 : List IS := [ip 21 (pMov (tg 5)),
  ip 22 (pBin .xor (tg 21) (cv (.int .u32 1))),
  ip 5 (pMov (tg 22))]
@[simp] def od9_6_ap := ops_rule (c := od9_6) rfl
def cd9_4 : SC := sCond (tg 20) (sReg (seqI od9_6)) sSkip
@[simp] def cd9_4_ap := cond_rule (c := cd9_4) rfl
def cd9_5 : SC := sSeq (sReg (seqI od9_5)) cd9_4
@[simp] def cd9_5_ap := seq_rule (c := cd9_5) rfl
def od9_7 : List IS := [ip 23 (pMov (tg 5)),
  ip 24 (pFaddr 0 (tg 2)),
  il 25 (tg 24) (mLoad1 (tg 24)),
  ip 26 (pShift .shl (tg 23) (tg 25)),
  ip 4 (pMov (tg 26))]
@[simp] def od9_7_ap := ops_rule (c := od9_7) rfl
def cd9_6 : SC := sSeq (sReg (seqI od9_7)) sRet
@[simp] def cd9_6_ap := seq_rule (c := cd9_6) rfl
def cd9_7 : SC := sSeq cd9_5 cd9_6
@[simp] def cd9_7_ap := seq_rule (c := cd9_7) rfl
def cd9_8 : SC := sSeq (sAny od9_4) cd9_7
@[simp] def cd9_8_ap := seq_rule (c := cd9_8) rfl
def cd9_9 : SC := sSeq cd9_3 cd9_8
@[simp] def cd9_9_ap := seq_rule (c := cd9_9) rfl
def cd9_10 : SC := sSeq (sReg (seqI od9_1)) cd9_9
@[simp] def cd9_10_ap := seq_rule (c := cd9_10) rfl
def dd9 : DFn := ⟨cd9_10, 27, [.t 4]⟩
theorem dd9_ok : fnOf Try.prog 73 = some dd9 := by kernel_rfl
end
end Go.Sx
