/- Compiled code. -/
import Derived.Test.YtdfaibjngkfnaaaGa
import Derived.Test.YtdfaibjngkfnaaaProg
import Derived.KernelRfl
set_option linter.unusedVariables false
set_option linter.unusedSimpArgs false
set_option linter.defProp false
/- Compiled code: printed by a program. -/
set_option linter.unusedVariables false
namespace Go.Sx
open Go.Dx Go.Proofs
noncomputable section
def o_l_WeaveChecks_1 : List IS := [im 1 1 (mBox (tg 0)),
  ip 2 (pMov (cv (.bool false)))]
@[simp] def o_l_WeaveChecks_1_ap := ops_rule (c := o_l_WeaveChecks_1) rfl
def o_l_WeaveChecks_2 : List IS := [il 8 (tg 1) (mLoadN 2 (tg 1)),
  im 3 9 (mCall 22 [(tg 8)]),
  ip 7 (pMov (tg 9)),
  ip 10 (pExtract (tg 7) 0),
  ip 11 (pExtract (tg 7) 1),
  ip 3 (pMov (tg 10)),
  ip 4 (pMov (tg 11))]
@[simp] def o_l_WeaveChecks_2_ap := ops_rule (c := o_l_WeaveChecks_2) rfl
def o_l_WeaveChecks_3 : List IS := [il 13 (tg 1) (mLoadN 2 (tg 1)),
  im 3 14 (mCall 13 [(tg 13)]),
  im 3 15 (mCall 14 [(tg 14)]),
  ip 12 (pMov (tg 15)),
  ip 16 (pExtract (tg 12) 0),
  ip 17 (pExtract (tg 12) 1),
  ip 5 (pMov (tg 16)),
  ip 6 (pMov (tg 17))]
@[simp] def o_l_WeaveChecks_3_ap := ops_rule (c := o_l_WeaveChecks_3) rfl
def o_l_WeaveChecks_4 : List IS := [im 3 18 (mCall 15 []),
  ip 19 (pMov (tg 18)),
  gd 19 true (some 20) (ip 20 (pMov (tg 3))),
  gd 19 true (some 21) (ip 21 (pMov (tg 5))),
  gd 19 true (some 22) (ip 22 (pBin .eql (tg 20) (tg 21))),
  ip 23 (pPick (tg 19) (tg 22) (cv (.bool false))),
  ip 24 (pMov (tg 23)),
  gd 24 true (some 25) (ip 25 (pMov (tg 4))),
  gd 24 true (some 26) (ip 26 (pMov (tg 6))),
  gd 24 true (some 27) (ip 27 (pBin .eql (tg 25) (tg 26))),
  ip 28 (pPick (tg 24) (tg 27) (cv (.bool false))),
  ip 2 (pMov (tg 28))]
@[simp] def o_l_WeaveChecks_4_ap := ops_rule (c := o_l_WeaveChecks_4) rfl
def c_l_WeaveChecks_1 : SC := sSeq (sReg (seqI o_l_WeaveChecks_4)) sRet
@[simp] def c_l_WeaveChecks_1_ap := seq_rule (c := c_l_WeaveChecks_1) rfl
def c_l_WeaveChecks_2 : SC := sSeq (sReg (seqI o_l_WeaveChecks_3)) c_l_WeaveChecks_1
@[simp] def c_l_WeaveChecks_2_ap := seq_rule (c := c_l_WeaveChecks_2) rfl
def c_l_WeaveChecks_3 : SC := sSeq (sReg (seqI o_l_WeaveChecks_2)) c_l_WeaveChecks_2
@[simp] def c_l_WeaveChecks_3_ap := seq_rule (c := c_l_WeaveChecks_3) rfl
def c_l_WeaveChecks_4 : SC := sSeq (sReg (seqI o_l_WeaveChecks_1)) c_l_WeaveChecks_3
@[simp] def c_l_WeaveChecks_4_ap := seq_rule (c := c_l_WeaveChecks_4) rfl
def d_l_WeaveChecks : DFn := ⟨c_l_WeaveChecks_4, 29, [.t 2]⟩
theorem d_l_WeaveChecks_ok : fnOf Try.prog 5 = some d_l_WeaveChecks := by kernel_rfl
def o_l_WeaveAlls_1 : List IS := [ip 2 (pMov (cv (.bool false)))]
@[simp] def o_l_WeaveAlls_1_ap := ops_rule (c := o_l_WeaveAlls_1) rfl
def o_l_WeaveAlls_2 : List IS := [ip 8 (pMov (tg 0)),
  im 3 9 (mCall 32 [(tg 8)]),
  ip 7 (pMov (tg 9)),
  ip 10 (pExtract (tg 7) 0),
  ip 11 (pExtract (tg 7) 1),
  ip 3 (pMov (tg 10)),
  ip 4 (pMov (tg 11))]
@[simp] def o_l_WeaveAlls_2_ap := ops_rule (c := o_l_WeaveAlls_2) rfl
def o_l_WeaveAlls_3 : List IS := [ip 12 (pMov (tg 0)),
  ip 13 (pBin .lss (tg 12) (cv (.int .i64 3))),
  ip 14 (pMov (tg 13)),
  gd 14 false (some 15) (ip 15 (pMov (tg 0))),
  gd 14 false (some 16) (ip 16 (pBin .gtr (tg 15) (cv (.int .i64 6)))),
  ip 17 (pPick (tg 14) (cv (.bool true)) (tg 16))]
@[simp] def o_l_WeaveAlls_3_ap := ops_rule (c := o_l_WeaveAlls_3) rfl
def o_l_WeaveAlls_4 : List IS := [im 3 18 (mCall 15 []),
  ip 19 (pMov (tg 18)),
  gd 19 true (some 20) (ip 20 (pMov (tg 4))),
  gd 19 true (some 21) (ip 21 (pBin .eql (tg 20) (cv (.int .i64 1)))),
  ip 22 (pPick (tg 19) (tg 21) (cv (.bool false))),
  ip 23 (pMov (tg 22)),
  gd 23 true (some 24) (ip 24 (pMov (tg 3))),
  gd 23 true (some 25) (ip 25 (pLen (tg 24))),
  gd 23 true (some 26) (ip 26 (pBin .eql (tg 25) (cv (.int .i64 0)))),
  ip 27 (pPick (tg 23) (tg 26) (cv (.bool false))),
  ip 2 (pMov (tg 27))]
@[simp] def o_l_WeaveAlls_4_ap := ops_rule (c := o_l_WeaveAlls_4) rfl
def c_l_WeaveAlls_1 : SC := sSeq (sReg (seqI o_l_WeaveAlls_4)) sRet
@[simp] def c_l_WeaveAlls_1_ap := seq_rule (c := c_l_WeaveAlls_1) rfl
def c_l_WeaveAlls_2 : SC := sCond (tg 17) c_l_WeaveAlls_1 sSkip
@[simp] def c_l_WeaveAlls_2_ap := cond_rule (c := c_l_WeaveAlls_2) rfl
def c_l_WeaveAlls_3 : SC := sSeq (sReg (seqI o_l_WeaveAlls_3)) c_l_WeaveAlls_2
@[simp] def c_l_WeaveAlls_3_ap := seq_rule (c := c_l_WeaveAlls_3) rfl
def o_l_WeaveAlls_5 : List IS := [ip 28 (pMov (tg 0)),
  im 3 29 (mCall 33 [(tg 28)]),
  ip 5 (pMov (tg 29))]
@[simp] def o_l_WeaveAlls_5_ap := ops_rule (c := o_l_WeaveAlls_5) rfl
def o_l_WeaveAlls_6 : List IS := [im 3 30 (mCall 15 []),
  ip 31 (pUn .not (tg 30)),
  ip 32 (pMov (tg 31)),
  gd 32 false (some 33) (ip 33 (pMov (tg 4))),
  gd 32 false (some 34) (ip 34 (pBin .neq (tg 33) (cv (.int .i64 0)))),
  ip 35 (pPick (tg 32) (cv (.bool true)) (tg 34)),
  ip 36 (pMov (tg 35)),
  gd 36 false (some 37) (ip 37 (pMov (tg 3))),
  gd 36 false (some 38) (ip 38 (pLen (tg 37))),
  gd 36 false (some 39) (ip 39 (pMov (tg 5))),
  gd 36 false (some 40) (ip 40 (pLen (tg 39))),
  gd 36 false (some 41) (ip 41 (pBin .neq (tg 38) (tg 40))),
  ip 42 (pPick (tg 36) (cv (.bool true)) (tg 41))]
@[simp] def o_l_WeaveAlls_6_ap := ops_rule (c := o_l_WeaveAlls_6) rfl
def o_l_WeaveAlls_7 : List IS := [ip 2 (pMov (cv (.bool false)))]
@[simp] def o_l_WeaveAlls_7_ap := ops_rule (c := o_l_WeaveAlls_7) rfl
def c_l_WeaveAlls_4 : SC := sSeq (sReg (seqI o_l_WeaveAlls_7)) sRet
@[simp] def c_l_WeaveAlls_4_ap := seq_rule (c := c_l_WeaveAlls_4) rfl
def c_l_WeaveAlls_5 : SC := sCond (tg 42) c_l_WeaveAlls_4 sSkip
@[simp] def c_l_WeaveAlls_5_ap := cond_rule (c := c_l_WeaveAlls_5) rfl
def c_l_WeaveAlls_6 : SC := sSeq (sReg (seqI o_l_WeaveAlls_6)) c_l_WeaveAlls_5
@[simp] def c_l_WeaveAlls_6_ap := seq_rule (c := c_l_WeaveAlls_6) rfl
def o_l_WeaveAlls_8 : List IS := [ip 6 (pMov (cv (.int .i64 0)))]
@[simp] def o_l_WeaveAlls_8_ap := ops_rule (c := o_l_WeaveAlls_8) rfl
def o_l_WeaveAlls_9 : List IS := [ip 43 (pMov (tg 6)),
  ip 44 (pMov (tg 3)),
  ip 45 (pLen (tg 44)),
  ip 46 (pBin .lss (tg 43) (tg 45))]
@[simp] def o_l_WeaveAlls_9_ap := ops_rule (c := o_l_WeaveAlls_9) rfl
def c_l_WeaveAlls_7 : SC := sCond (tg 46) sSkip (sExit 0)
@[simp] def c_l_WeaveAlls_7_ap := cond_rule (c := c_l_WeaveAlls_7) rfl
def c_l_WeaveAlls_8 : SC := sSeq (sReg (seqI o_l_WeaveAlls_9)) c_l_WeaveAlls_7
@[simp] def c_l_WeaveAlls_8_ap := seq_rule (c := c_l_WeaveAlls_8) rfl
def o_l_WeaveAlls_10 : List DA := [⟨CI.pure (pMov (tg 3)), (some 49), none, 0, []⟩,
  ⟨CI.pure (pMov (tg 6)), (some 50), none, 1, []⟩,
  ⟨CI.pure (pIaddrS 2 (tg 49) (tg 50)), (some 51), none, 2, []⟩,
  ⟨CI.load (tg 51) (mLoadN 2 (tg 51)), (some 52), none, 3, []⟩,
  ⟨CI.mem 3 (mCall 13 [(tg 52)]), (some 53), none, 4, []⟩,
  ⟨CI.pure (pMov (tg 5)), (some 54), none, 5, []⟩,
  ⟨CI.pure (pMov (tg 6)), (some 55), none, 6, []⟩,
  ⟨CI.pure (pIaddrS 2 (tg 54) (tg 55)), (some 56), none, 7, []⟩,
  ⟨CI.load (tg 56) (mLoadN 2 (tg 56)), (some 57), none, 8, [4]⟩,
  ⟨CI.mem 3 (mCall 29 [(tg 53), (tg 57)]), (some 58), none, 9, []⟩,
  ⟨CI.pure (pUn .not (tg 58)), (some 59), none, 10, []⟩]
@[simp] def o_l_WeaveAlls_10_ap := das_rule (c := o_l_WeaveAlls_10) rfl
def o_l_WeaveAlls_11 : List IS := [ip 2 (pMov (cv (.bool false)))]
@[simp] def o_l_WeaveAlls_11_ap := ops_rule (c := o_l_WeaveAlls_11) rfl
def c_l_WeaveAlls_9 : SC := sSeq (sReg (seqI o_l_WeaveAlls_11)) sRet
@[simp] def c_l_WeaveAlls_9_ap := seq_rule (c := c_l_WeaveAlls_9) rfl
def c_l_WeaveAlls_10 : SC := sCond (tg 59) c_l_WeaveAlls_9 sSkip
@[simp] def c_l_WeaveAlls_10_ap := cond_rule (c := c_l_WeaveAlls_10) rfl
def c_l_WeaveAlls_11 : SC := sSeq (sAny o_l_WeaveAlls_10) c_l_WeaveAlls_10
@[simp] def c_l_WeaveAlls_11_ap := seq_rule (c := c_l_WeaveAlls_11) rfl
def c_l_WeaveAlls_12 : SC := sBlock 1 c_l_WeaveAlls_11
@[simp] def c_l_WeaveAlls_12_ap := block_rule (c := c_l_WeaveAlls_12) rfl
def o_l_WeaveAlls_12 : List IS := [ip 47 (pMov (tg 6)),
  ip 48 (pBin .add (tg 47) (cv (.int .i64 1))),
  ip 6 (pMov (tg 48))]
@[simp] def o_l_WeaveAlls_12_ap := ops_rule (c := o_l_WeaveAlls_12) rfl
def c_l_WeaveAlls_13 : SC := sSeq c_l_WeaveAlls_12 (sReg (seqI o_l_WeaveAlls_12))
@[simp] def c_l_WeaveAlls_13_ap := seq_rule (c := c_l_WeaveAlls_13) rfl
def c_l_WeaveAlls_14 : SC := sSeq c_l_WeaveAlls_8 c_l_WeaveAlls_13
@[simp] def c_l_WeaveAlls_14_ap := seq_rule (c := c_l_WeaveAlls_14) rfl
def c_l_WeaveAlls_15 : SC := sLoop c_l_WeaveAlls_14
def c_l_WeaveAlls_16 : SC := sBlock 0 c_l_WeaveAlls_15
@[simp] def c_l_WeaveAlls_16_ap := block_rule (c := c_l_WeaveAlls_16) rfl
def c_l_WeaveAlls_17 : SC := sSeq (sReg (seqI o_l_WeaveAlls_8)) c_l_WeaveAlls_16
@[simp] def c_l_WeaveAlls_17_ap := seq_rule (c := c_l_WeaveAlls_17) rfl
def o_l_WeaveAlls_13 : List IS := [ip 2 (pMov (cv (.bool true)))]
@[simp] def o_l_WeaveAlls_13_ap := ops_rule (c := o_l_WeaveAlls_13) rfl
def c_l_WeaveAlls_18 : SC := sSeq (sReg (seqI o_l_WeaveAlls_13)) sRet
@[simp] def c_l_WeaveAlls_18_ap := seq_rule (c := c_l_WeaveAlls_18) rfl
def c_l_WeaveAlls_19 : SC := sSeq c_l_WeaveAlls_17 c_l_WeaveAlls_18
@[simp] def c_l_WeaveAlls_19_ap := seq_rule (c := c_l_WeaveAlls_19) rfl
def c_l_WeaveAlls_20 : SC := sSeq c_l_WeaveAlls_6 c_l_WeaveAlls_19
@[simp] def c_l_WeaveAlls_20_ap := seq_rule (c := c_l_WeaveAlls_20) rfl
def c_l_WeaveAlls_21 : SC := sSeq (sReg (seqI o_l_WeaveAlls_5)) c_l_WeaveAlls_20
@[simp] def c_l_WeaveAlls_21_ap := seq_rule (c := c_l_WeaveAlls_21) rfl
def c_l_WeaveAlls_22 : SC := sSeq c_l_WeaveAlls_3 c_l_WeaveAlls_21
@[simp] def c_l_WeaveAlls_22_ap := seq_rule (c := c_l_WeaveAlls_22) rfl
def c_l_WeaveAlls_23 : SC := sSeq (sReg (seqI o_l_WeaveAlls_2)) c_l_WeaveAlls_22
@[simp] def c_l_WeaveAlls_23_ap := seq_rule (c := c_l_WeaveAlls_23) rfl
def c_l_WeaveAlls_24 : SC := sSeq (sReg (seqI o_l_WeaveAlls_1)) c_l_WeaveAlls_23
@[simp] def c_l_WeaveAlls_24_ap := seq_rule (c := c_l_WeaveAlls_24) rfl
def d_l_WeaveAlls : DFn := ⟨c_l_WeaveAlls_24, 60, [.t 2]⟩
theorem d_l_WeaveAlls_ok : fnOf Try.prog 10 = some d_l_WeaveAlls := by kernel_rfl
def o_l_Ref_1 : List IS := [im 1 1 (mBox (tg 0)),
  im 1 2 (mAlloc [(.slice none 0 0), (.slice none 0 0)])]
@[simp] def o_l_Ref_1_ap := ops_rule (c := o_l_Ref_1) rfl
def o_l_Ref_2 : List IS := [im 1 3 (mAlloc [(.slice none 0 0), (.slice none 0 0)])]
@[simp] def o_l_Ref_2_ap := ops_rule (c := o_l_Ref_2) rfl
def o_l_Ref_3 : List IS := [ip 4 (pMov (cv (.int .i64 0)))]
@[simp] def o_l_Ref_3_ap := ops_rule (c := o_l_Ref_3) rfl
def o_l_Ref_4 : List IS := [ip 5 (pMov (tg 4)),
  ip 6 (pFaddr 0 (tg 1)),
  il 7 (tg 6) (mLoad1 (tg 6)),
  ip 8 (pLen (tg 7)),
  ip 9 (pBin .lss (tg 5) (tg 8))]
@[simp] def o_l_Ref_4_ap := ops_rule (c := o_l_Ref_4) rfl
def c_l_Ref_1 : SC := sCond (tg 9) sSkip (sExit 0)
@[simp] def c_l_Ref_1_ap := cond_rule (c := c_l_Ref_1) rfl
def c_l_Ref_2 : SC := sSeq (sReg (seqI o_l_Ref_4)) c_l_Ref_1
@[simp] def c_l_Ref_2_ap := seq_rule (c := c_l_Ref_2) rfl
def o_l_Ref_5 : List DA := [⟨CI.pure (pFaddr 0 (tg 3)), (some 12), none, 0, []⟩,
  ⟨CI.load (tg 12) (mLoad1 (tg 12)), (some 13), none, 1, []⟩,
  ⟨CI.pure (pFaddr 0 (tg 1)), (some 14), none, 2, []⟩,
  ⟨CI.load (tg 14) (mLoad1 (tg 14)), (some 15), none, 3, []⟩,
  ⟨CI.pure (pMov (tg 4)), (some 16), none, 4, []⟩,
  ⟨CI.pure (pIaddrS 2 (tg 15) (tg 16)), (some 17), none, 5, []⟩,
  ⟨CI.pure (pFaddr 0 (tg 17)), (some 18), none, 6, []⟩,
  ⟨CI.load (tg 18) (mLoad1 (tg 18)), (some 19), none, 7, []⟩,
  ⟨CI.pure (pFaddr 0 (tg 1)), (some 20), none, 8, []⟩,
  ⟨CI.load (tg 20) (mLoad1 (tg 20)), (some 21), none, 9, []⟩,
  ⟨CI.pure (pMov (tg 4)), (some 22), none, 10, []⟩,
  ⟨CI.pure (pIaddrS 2 (tg 21) (tg 22)), (some 23), none, 11, []⟩,
  ⟨CI.pure (pFaddr 1 (tg 23)), (some 24), none, 12, []⟩,
  ⟨CI.load (tg 24) (mLoad1 (tg 24)), (some 25), none, 13, []⟩,
  ⟨CI.pure (pBuild [(.int .i64 0), (.int .i64 0)] [(0, 1, (tg 19)), (1, 1, (tg 25))]), (some 26), none, 14, []⟩,
  ⟨CI.mem 1 (mBslice 2 1 (rep 1 [(.int .i64 0), (.int .i64 0)]) [(0, 2, (tg 26))]), (some 27), none, 15, []⟩,
  ⟨CI.mem 3 (mAppend 2 16 (tg 13) (tg 27)), (some 28), none, 16, []⟩,
  ⟨CI.pure (pFaddr 0 (tg 3)), (some 29), none, 17, []⟩,
  ⟨CI.mem 3 (mStore 1 (tg 29) (tg 28)), none, none, 18, []⟩]
@[simp] def o_l_Ref_5_ap := das_rule (c := o_l_Ref_5) rfl
def c_l_Ref_3 : SC := sBlock 1 (sAny o_l_Ref_5)
@[simp] def c_l_Ref_3_ap := block_rule (c := c_l_Ref_3) rfl
def o_l_Ref_6 : List IS := [ip 10 (pMov (tg 4)),
  ip 11 (pBin .add (tg 10) (cv (.int .i64 1))),
  ip 4 (pMov (tg 11))]
@[simp] def o_l_Ref_6_ap := ops_rule (c := o_l_Ref_6) rfl
def c_l_Ref_4 : SC := sSeq c_l_Ref_3 (sReg (seqI o_l_Ref_6))
@[simp] def c_l_Ref_4_ap := seq_rule (c := c_l_Ref_4) rfl
def c_l_Ref_5 : SC := sSeq c_l_Ref_2 c_l_Ref_4
@[simp] def c_l_Ref_5_ap := seq_rule (c := c_l_Ref_5) rfl
def c_l_Ref_6 : SC := sLoop c_l_Ref_5
def c_l_Ref_7 : SC := sBlock 0 c_l_Ref_6
@[simp] def c_l_Ref_7_ap := block_rule (c := c_l_Ref_7) rfl
def c_l_Ref_8 : SC := sSeq (sReg (seqI o_l_Ref_3)) c_l_Ref_7
@[simp] def c_l_Ref_8_ap := seq_rule (c := c_l_Ref_8) rfl
def o_l_Ref_7 : List IS := [ip 30 (pFaddr 1 (tg 3)),
  il 31 (tg 30) (mLoad1 (tg 30)),
  ip 32 (pFaddr 1 (tg 1)),
  il 33 (tg 32) (mLoad1 (tg 32)),
  im 3 34 (mAppend 1 8 (tg 31) (tg 33)),
  ip 35 (pFaddr 1 (tg 3)),
  im0 3 (mStore 1 (tg 35) (tg 34))]
@[simp] def o_l_Ref_7_ap := ops_rule (c := o_l_Ref_7) rfl
def o_l_Ref_8 : List IS := [il 36 (tg 3) (mLoadN 2 (tg 3)),
  im0 3 (mStore 2 (tg 2) (tg 36))]
@[simp] def o_l_Ref_8_ap := ops_rule (c := o_l_Ref_8) rfl
def c_l_Ref_9 : SC := sSeq (sReg (seqI o_l_Ref_8)) sRet
@[simp] def c_l_Ref_9_ap := seq_rule (c := c_l_Ref_9) rfl
def c_l_Ref_10 : SC := sSeq (sReg (seqI o_l_Ref_7)) c_l_Ref_9
@[simp] def c_l_Ref_10_ap := seq_rule (c := c_l_Ref_10) rfl
def c_l_Ref_11 : SC := sSeq c_l_Ref_8 c_l_Ref_10
@[simp] def c_l_Ref_11_ap := seq_rule (c := c_l_Ref_11) rfl
def c_l_Ref_12 : SC := sSeq (sReg (seqI o_l_Ref_2)) c_l_Ref_11
@[simp] def c_l_Ref_12_ap := seq_rule (c := c_l_Ref_12) rfl
def c_l_Ref_13 : SC := sSeq (sReg (seqI o_l_Ref_1)) c_l_Ref_12
@[simp] def c_l_Ref_13_ap := seq_rule (c := c_l_Ref_13) rfl
def d_l_Ref : DFn := ⟨c_l_Ref_13, 37, [.cell 2 2]⟩
theorem d_l_Ref_ok : fnOf Try.prog 13 = some d_l_Ref := by kernel_rfl
def o_r_Check_1 : List IS := [im 1 1 (mBox (tg 0)),
  ip 2 (pMov (cv (.int .i64 0))),
  ip 3 (pMov (cv (.int .i64 0)))]
@[simp] def o_r_Check_1_ap := ops_rule (c := o_r_Check_1) rfl
def o_r_Check_2 : List IS := [il 15 (tg 1) (mLoadN 2 (tg 1)),
  im 3 16 (mCall 42 [(tg 15)]),
  ip 14 (pMov (tg 16)),
  ip 17 (pExtract (tg 14) 0),
  ip 18 (pExtract (tg 14) 1),
  ip 4 (pMov (tg 17)),
  ip 5 (pMov (tg 18))]
@[simp] def o_r_Check_2_ap := ops_rule (c := o_r_Check_2) rfl
def o_r_Check_3 : List IS := [ip 19 (pMov (tg 5)),
  ip 20 (pBin .neq (tg 19) (cv (.int .i64 0)))]
@[simp] def o_r_Check_3_ap := ops_rule (c := o_r_Check_3) rfl
def o_r_Check_4 : List IS := [ip 21 (pMov (tg 4)),
  ip 22 (pMov (tg 5)),
  ip 2 (pMov (tg 21)),
  ip 3 (pMov (tg 22))]
@[simp] def o_r_Check_4_ap := ops_rule (c := o_r_Check_4) rfl
def c_r_Check_1 : SC := sSeq (sReg (seqI o_r_Check_4)) sRet
@[simp] def c_r_Check_1_ap := seq_rule (c := c_r_Check_1) rfl
def c_r_Check_2 : SC := sCond (tg 20) c_r_Check_1 sSkip
@[simp] def c_r_Check_2_ap := cond_rule (c := c_r_Check_2) rfl
def c_r_Check_3 : SC := sSeq (sReg (seqI o_r_Check_3)) c_r_Check_2
@[simp] def c_r_Check_3_ap := seq_rule (c := c_r_Check_3) rfl
def o_r_Check_5 : List IS := [il 24 (tg 1) (mLoadN 2 (tg 1)),
  im 3 25 (mCall 43 [(tg 24)]),
  ip 23 (pMov (tg 25)),
  ip 26 (pExtract (tg 23) 0),
  ip 27 (pExtract (tg 23) 1),
  ip 6 (pMov (tg 26)),
  ip 7 (pMov (tg 27))]
@[simp] def o_r_Check_5_ap := ops_rule (c := o_r_Check_5) rfl
def o_r_Check_6 : List IS := [ip 28 (pMov (tg 6)),
  ip 29 (pBin .lss (tg 28) (cv (.int .i64 2))),
  ip 30 (pMov (tg 29)),
  gd 30 false (some 31) (ip 31 (pMov (tg 7))),
  gd 30 false (some 32) (ip 32 (pBin .lss (tg 31) (cv (.int .i64 1)))),
  ip 33 (pPick (tg 30) (cv (.bool true)) (tg 32))]
@[simp] def o_r_Check_6_ap := ops_rule (c := o_r_Check_6) rfl
def o_r_Check_7 : List IS := [ip 2 (pMov (cv (.int .i64 0))),
  ip 3 (pMov (cv (.int .i64 4)))]
@[simp] def o_r_Check_7_ap := ops_rule (c := o_r_Check_7) rfl
def c_r_Check_4 : SC := sSeq (sReg (seqI o_r_Check_7)) sRet
@[simp] def c_r_Check_4_ap := seq_rule (c := c_r_Check_4) rfl
def c_r_Check_5 : SC := sCond (tg 33) c_r_Check_4 sSkip
@[simp] def c_r_Check_5_ap := cond_rule (c := c_r_Check_5) rfl
def c_r_Check_6 : SC := sSeq (sReg (seqI o_r_Check_6)) c_r_Check_5
@[simp] def c_r_Check_6_ap := seq_rule (c := c_r_Check_6) rfl
def o_r_Check_8 : List IS := [il 34 (tg 1) (mLoadN 2 (tg 1)),
  im 3 35 (mCall 44 [(tg 34)]),
  ip 8 (pMov (tg 35))]
@[simp] def o_r_Check_8_ap := ops_rule (c := o_r_Check_8) rfl
def o_r_Check_9 : List IS := [ip 9 (pMov (cv (.slice none 0 0)))]
@[simp] def o_r_Check_9_ap := ops_rule (c := o_r_Check_9) rfl
def o_r_Check_10 : List IS := [ip 10 (pMov (cv (.int .i64 0)))]
@[simp] def o_r_Check_10_ap := ops_rule (c := o_r_Check_10) rfl
def o_r_Check_11 : List IS := [ip 36 (pMov (tg 10)),
  ip 37 (pMov (tg 8)),
  ip 38 (pLen (tg 37)),
  ip 39 (pBin .lss (tg 36) (tg 38))]
@[simp] def o_r_Check_11_ap := ops_rule (c := o_r_Check_11) rfl
def c_r_Check_7 : SC := sCond (tg 39) sSkip (sExit 0)
@[simp] def c_r_Check_7_ap := cond_rule (c := c_r_Check_7) rfl
def c_r_Check_8 : SC := sSeq (sReg (seqI o_r_Check_11)) c_r_Check_7
@[simp] def c_r_Check_8_ap := seq_rule (c := c_r_Check_8) rfl
def o_r_Check_12 : List DA := [⟨CI.pure (pFaddr 0 (tg 1)), (some 42), none, 0, []⟩,
  ⟨CI.load (tg 42) (mLoad1 (tg 42)), (some 43), none, 1, []⟩,
  ⟨CI.pure (pMov (tg 8)), (some 44), none, 2, []⟩,
  ⟨CI.pure (pMov (tg 10)), (some 45), none, 3, []⟩,
  ⟨CI.pure (pIaddrS 1 (tg 44) (tg 45)), (some 46), none, 4, []⟩,
  ⟨CI.load (tg 46) (mLoad1 (tg 46)), (some 47), none, 5, []⟩,
  ⟨CI.pure (pIaddrS 2 (tg 43) (tg 47)), (some 48), none, 6, []⟩,
  ⟨CI.pure (pFaddr 0 (tg 48)), (some 49), none, 7, []⟩,
  ⟨CI.load (tg 49) (mLoad1 (tg 49)), (some 50), none, 8, []⟩,
  ⟨CI.mem 3 (mCall 45 [(tg 50)]), (some 51), none, 9, []⟩,
  ⟨CI.pure (pUn .not (tg 51)), (some 52), none, 10, []⟩]
@[simp] def o_r_Check_12_ap := das_rule (c := o_r_Check_12) rfl
def c_r_Check_9 : SC := sCond (tg 52) (sExit 1) sSkip
@[simp] def c_r_Check_9_ap := cond_rule (c := c_r_Check_9) rfl
def c_r_Check_10 : SC := sSeq (sAny o_r_Check_12) c_r_Check_9
@[simp] def c_r_Check_10_ap := seq_rule (c := c_r_Check_10) rfl
def o_r_Check_13 : List DA := [⟨CI.load (tg 1) (mLoadN 2 (tg 1)), (some 53), none, 0, []⟩,
  ⟨CI.pure (pMov (tg 8)), (some 54), none, 1, []⟩,
  ⟨CI.pure (pMov (tg 10)), (some 55), none, 2, []⟩,
  ⟨CI.pure (pIaddrS 1 (tg 54) (tg 55)), (some 56), none, 3, []⟩,
  ⟨CI.load (tg 56) (mLoad1 (tg 56)), (some 57), none, 4, []⟩,
  ⟨CI.mem 3 (mCall 46 [(tg 53), (tg 57)]), (some 58), none, 5, []⟩,
  ⟨CI.pure (pMov (tg 58)), (some 11), none, 6, []⟩]
@[simp] def o_r_Check_13_ap := das_rule (c := o_r_Check_13) rfl
def o_r_Check_14 : List IS := [ip 12 (pMov (cv (.int .i64 0)))]
@[simp] def o_r_Check_14_ap := ops_rule (c := o_r_Check_14) rfl
def o_r_Check_15 : List IS := [ip 13 (pMov (cv (.int .i64 0)))]
@[simp] def o_r_Check_15_ap := ops_rule (c := o_r_Check_15) rfl
def o_r_Check_16 : List IS := [ip 59 (pMov (tg 13)),
  ip 60 (pMov (tg 9)),
  ip 61 (pLen (tg 60)),
  ip 62 (pBin .lss (tg 59) (tg 61))]
@[simp] def o_r_Check_16_ap := ops_rule (c := o_r_Check_16) rfl
def c_r_Check_11 : SC := sCond (tg 62) sSkip (sExit 2)
@[simp] def c_r_Check_11_ap := cond_rule (c := c_r_Check_11) rfl
def c_r_Check_12 : SC := sSeq (sReg (seqI o_r_Check_16)) c_r_Check_11
@[simp] def c_r_Check_12_ap := seq_rule (c := c_r_Check_12) rfl
def o_r_Check_17 : List IS := [ip 65 (pMov (tg 9)),
  ip 66 (pMov (tg 13)),
  ip 67 (pIaddrS 1 (tg 65) (tg 66)),
  il 68 (tg 67) (mLoad1 (tg 67)),
  ip 69 (pMov (tg 11)),
  ip 70 (pBin .eql (tg 68) (tg 69))]
@[simp] def o_r_Check_17_ap := ops_rule (c := o_r_Check_17) rfl
def o_r_Check_18 : List IS := [ip 71 (pMov (tg 12)),
  ip 72 (pBin .add (tg 71) (cv (.int .i64 1))),
  ip 12 (pMov (tg 72))]
@[simp] def o_r_Check_18_ap := ops_rule (c := o_r_Check_18) rfl
def c_r_Check_13 : SC := sCond (tg 70) (sReg (seqI o_r_Check_18)) sSkip
@[simp] def c_r_Check_13_ap := cond_rule (c := c_r_Check_13) rfl
def c_r_Check_14 : SC := sSeq (sReg (seqI o_r_Check_17)) c_r_Check_13
@[simp] def c_r_Check_14_ap := seq_rule (c := c_r_Check_14) rfl
def c_r_Check_15 : SC := sBlock 3 c_r_Check_14
@[simp] def c_r_Check_15_ap := block_rule (c := c_r_Check_15) rfl
def o_r_Check_19 : List IS := [ip 63 (pMov (tg 13)),
  ip 64 (pBin .add (tg 63) (cv (.int .i64 1))),
  ip 13 (pMov (tg 64))]
@[simp] def o_r_Check_19_ap := ops_rule (c := o_r_Check_19) rfl
def c_r_Check_16 : SC := sSeq c_r_Check_15 (sReg (seqI o_r_Check_19))
@[simp] def c_r_Check_16_ap := seq_rule (c := c_r_Check_16) rfl
def c_r_Check_17 : SC := sSeq c_r_Check_12 c_r_Check_16
@[simp] def c_r_Check_17_ap := seq_rule (c := c_r_Check_17) rfl
def c_r_Check_18 : SC := sLoop c_r_Check_17
def c_r_Check_19 : SC := sBlock 2 c_r_Check_18
@[simp] def c_r_Check_19_ap := block_rule (c := c_r_Check_19) rfl
def c_r_Check_20 : SC := sSeq (sReg (seqI o_r_Check_15)) c_r_Check_19
@[simp] def c_r_Check_20_ap := seq_rule (c := c_r_Check_20) rfl
def o_r_Check_20 : List IS := [ip 73 (pMov (tg 12)),
  ip 74 (pBin .eql (tg 73) (cv (.int .i64 2)))]
@[simp] def o_r_Check_20_ap := ops_rule (c := o_r_Check_20) rfl
def o_r_Check_21 : List IS := [ip 75 (pMov (tg 8)),
  ip 76 (pMov (tg 10)),
  ip 77 (pIaddrS 1 (tg 75) (tg 76)),
  il 78 (tg 77) (mLoad1 (tg 77)),
  ip 2 (pMov (tg 78)),
  ip 3 (pMov (cv (.int .i64 2)))]
@[simp] def o_r_Check_21_ap := ops_rule (c := o_r_Check_21) rfl
def c_r_Check_21 : SC := sSeq (sReg (seqI o_r_Check_21)) sRet
@[simp] def c_r_Check_21_ap := seq_rule (c := c_r_Check_21) rfl
def c_r_Check_22 : SC := sCond (tg 74) c_r_Check_21 sSkip
@[simp] def c_r_Check_22_ap := cond_rule (c := c_r_Check_22) rfl
def c_r_Check_23 : SC := sSeq (sReg (seqI o_r_Check_20)) c_r_Check_22
@[simp] def c_r_Check_23_ap := seq_rule (c := c_r_Check_23) rfl
def o_r_Check_22 : List IS := [ip 79 (pMov (tg 9)),
  ip 80 (pMov (tg 11)),
  im 1 81 (mBslice 1 1 (rep 1 [(.int .i64 0)]) [(0, 1, (tg 80))]),
  im 3 82 (mAppend 1 8 (tg 79) (tg 81)),
  ip 9 (pMov (tg 82))]
@[simp] def o_r_Check_22_ap := ops_rule (c := o_r_Check_22) rfl
def c_r_Check_24 : SC := sSeq c_r_Check_23 (sReg (seqI o_r_Check_22))
@[simp] def c_r_Check_24_ap := seq_rule (c := c_r_Check_24) rfl
def c_r_Check_25 : SC := sSeq c_r_Check_20 c_r_Check_24
@[simp] def c_r_Check_25_ap := seq_rule (c := c_r_Check_25) rfl
def c_r_Check_26 : SC := sSeq (sReg (seqI o_r_Check_14)) c_r_Check_25
@[simp] def c_r_Check_26_ap := seq_rule (c := c_r_Check_26) rfl
def c_r_Check_27 : SC := sSeq (sAny o_r_Check_13) c_r_Check_26
@[simp] def c_r_Check_27_ap := seq_rule (c := c_r_Check_27) rfl
def c_r_Check_28 : SC := sSeq c_r_Check_10 c_r_Check_27
@[simp] def c_r_Check_28_ap := seq_rule (c := c_r_Check_28) rfl
def c_r_Check_29 : SC := sBlock 1 c_r_Check_28
@[simp] def c_r_Check_29_ap := block_rule (c := c_r_Check_29) rfl
def o_r_Check_23 : List IS := [ip 40 (pMov (tg 10)),
  ip 41 (pBin .add (tg 40) (cv (.int .i64 1))),
  ip 10 (pMov (tg 41))]
@[simp] def o_r_Check_23_ap := ops_rule (c := o_r_Check_23) rfl
def c_r_Check_30 : SC := sSeq c_r_Check_29 (sReg (seqI o_r_Check_23))
@[simp] def c_r_Check_30_ap := seq_rule (c := c_r_Check_30) rfl
def c_r_Check_31 : SC := sSeq c_r_Check_8 c_r_Check_30
@[simp] def c_r_Check_31_ap := seq_rule (c := c_r_Check_31) rfl
def c_r_Check_32 : SC := sLoop c_r_Check_31
def c_r_Check_33 : SC := sBlock 0 c_r_Check_32
@[simp] def c_r_Check_33_ap := block_rule (c := c_r_Check_33) rfl
def c_r_Check_34 : SC := sSeq (sReg (seqI o_r_Check_10)) c_r_Check_33
@[simp] def c_r_Check_34_ap := seq_rule (c := c_r_Check_34) rfl
def o_r_Check_24 : List IS := [ip 2 (pMov (cv (.int .i64 0))),
  ip 3 (pMov (cv (.int .i64 0)))]
@[simp] def o_r_Check_24_ap := ops_rule (c := o_r_Check_24) rfl
def c_r_Check_35 : SC := sSeq (sReg (seqI o_r_Check_24)) sRet
@[simp] def c_r_Check_35_ap := seq_rule (c := c_r_Check_35) rfl
def c_r_Check_36 : SC := sSeq c_r_Check_34 c_r_Check_35
@[simp] def c_r_Check_36_ap := seq_rule (c := c_r_Check_36) rfl
def c_r_Check_37 : SC := sSeq (sReg (seqI o_r_Check_9)) c_r_Check_36
@[simp] def c_r_Check_37_ap := seq_rule (c := c_r_Check_37) rfl
def c_r_Check_38 : SC := sSeq (sReg (seqI o_r_Check_8)) c_r_Check_37
@[simp] def c_r_Check_38_ap := seq_rule (c := c_r_Check_38) rfl
def c_r_Check_39 : SC := sSeq c_r_Check_6 c_r_Check_38
@[simp] def c_r_Check_39_ap := seq_rule (c := c_r_Check_39) rfl
def c_r_Check_40 : SC := sSeq (sReg (seqI o_r_Check_5)) c_r_Check_39
@[simp] def c_r_Check_40_ap := seq_rule (c := c_r_Check_40) rfl
def c_r_Check_41 : SC := sSeq c_r_Check_3 c_r_Check_40
@[simp] def c_r_Check_41_ap := seq_rule (c := c_r_Check_41) rfl
def c_r_Check_42 : SC := sSeq (sReg (seqI o_r_Check_2)) c_r_Check_41
@[simp] def c_r_Check_42_ap := seq_rule (c := c_r_Check_42) rfl
def c_r_Check_43 : SC := sSeq (sReg (seqI o_r_Check_1)) c_r_Check_42
@[simp] def c_r_Check_43_ap := seq_rule (c := c_r_Check_43) rfl
def d_r_Check : DFn := ⟨c_r_Check_43, 83, [.t 2, .t 3]⟩
theorem d_r_Check_ok : fnOf Try.prog 14 = some d_r_Check := by kernel_rfl
def o_r_Cells_1 : List IS := [im 1 1 (mBox (tg 0)),
  ip 2 (pMov (cv (.int .i64 0)))]
@[simp] def o_r_Cells_1_ap := ops_rule (c := o_r_Cells_1) rfl
def o_r_Cells_2 : List IS := [il 6 (tg 1) (mLoadN 2 (tg 1)),
  im 3 7 (mCall 43 [(tg 6)]),
  ip 5 (pMov (tg 7)),
  ip 8 (pExtract (tg 5) 0),
  ip 9 (pExtract (tg 5) 1),
  ip 3 (pMov (tg 8)),
  ip 4 (pMov (tg 9))]
@[simp] def o_r_Cells_2_ap := ops_rule (c := o_r_Cells_2) rfl
def o_r_Cells_3 : List IS := [ip 10 (pMov (tg 4)),
  ip 2 (pMov (tg 10))]
@[simp] def o_r_Cells_3_ap := ops_rule (c := o_r_Cells_3) rfl
def c_r_Cells_1 : SC := sSeq (sReg (seqI o_r_Cells_3)) sRet
@[simp] def c_r_Cells_1_ap := seq_rule (c := c_r_Cells_1) rfl
def c_r_Cells_2 : SC := sSeq (sReg (seqI o_r_Cells_2)) c_r_Cells_1
@[simp] def c_r_Cells_2_ap := seq_rule (c := c_r_Cells_2) rfl
def c_r_Cells_3 : SC := sSeq (sReg (seqI o_r_Cells_1)) c_r_Cells_2
@[simp] def c_r_Cells_3_ap := seq_rule (c := c_r_Cells_3) rfl
def d_r_Cells : DFn := ⟨c_r_Cells_3, 11, [.t 2]⟩
theorem d_r_Cells_ok : fnOf Try.prog 16 = some d_r_Cells := by kernel_rfl
def o_r_Threads_1 : List IS := [im 1 1 (mBox (tg 0)),
  ip 2 (pMov (cv (.int .i64 0)))]
@[simp] def o_r_Threads_1_ap := ops_rule (c := o_r_Threads_1) rfl
def o_r_Threads_2 : List IS := [il 6 (tg 1) (mLoadN 2 (tg 1)),
  im 3 7 (mCall 43 [(tg 6)]),
  ip 5 (pMov (tg 7)),
  ip 8 (pExtract (tg 5) 0),
  ip 9 (pExtract (tg 5) 1),
  ip 3 (pMov (tg 8)),
  ip 4 (pMov (tg 9))]
@[simp] def o_r_Threads_2_ap := ops_rule (c := o_r_Threads_2) rfl
def o_r_Threads_3 : List IS := [ip 10 (pMov (tg 3)),
  ip 2 (pMov (tg 10))]
@[simp] def o_r_Threads_3_ap := ops_rule (c := o_r_Threads_3) rfl
def c_r_Threads_1 : SC := sSeq (sReg (seqI o_r_Threads_3)) sRet
@[simp] def c_r_Threads_1_ap := seq_rule (c := c_r_Threads_1) rfl
def c_r_Threads_2 : SC := sSeq (sReg (seqI o_r_Threads_2)) c_r_Threads_1
@[simp] def c_r_Threads_2_ap := seq_rule (c := c_r_Threads_2) rfl
def c_r_Threads_3 : SC := sSeq (sReg (seqI o_r_Threads_1)) c_r_Threads_2
@[simp] def c_r_Threads_3_ap := seq_rule (c := c_r_Threads_3) rfl
def d_r_Threads : DFn := ⟨c_r_Threads_3, 11, [.t 2]⟩
theorem d_r_Threads_ok : fnOf Try.prog 17 = some d_r_Threads := by kernel_rfl
def o_r_Writes_1 : List IS := [im 1 2 (mBox (tg 0)),
  ip 4 (pMov (cv (.int .i64 0)))]
@[simp] def o_r_Writes_1_ap := ops_rule (c := o_r_Writes_1) rfl
def o_r_Writes_2 : List IS := [ip 5 (pMov (cv (.int .i64 0)))]
@[simp] def o_r_Writes_2_ap := ops_rule (c := o_r_Writes_2) rfl
def o_r_Writes_3 : List IS := [ip 6 (pMov (cv (.int .i64 0)))]
@[simp] def o_r_Writes_3_ap := ops_rule (c := o_r_Writes_3) rfl
def o_r_Writes_4 : List IS := [ip 7 (pMov (tg 6)),
  ip 8 (pFaddr 0 (tg 2)),
  il 9 (tg 8) (mLoad1 (tg 8)),
  ip 10 (pLen (tg 9)),
  ip 11 (pBin .lss (tg 7) (tg 10))]
@[simp] def o_r_Writes_4_ap := ops_rule (c := o_r_Writes_4) rfl
def c_r_Writes_1 : SC := sCond (tg 11) sSkip (sExit 0)
@[simp] def c_r_Writes_1_ap := cond_rule (c := c_r_Writes_1) rfl
def c_r_Writes_2 : SC := sSeq (sReg (seqI o_r_Writes_4)) c_r_Writes_1
@[simp] def c_r_Writes_2_ap := seq_rule (c := c_r_Writes_2) rfl
def o_r_Writes_5 : List IS := [ip 14 (pFaddr 0 (tg 2)),
  il 15 (tg 14) (mLoad1 (tg 14)),
  ip 16 (pMov (tg 6)),
  ip 17 (pIaddrS 2 (tg 15) (tg 16)),
  ip 18 (pFaddr 0 (tg 17)),
  il 19 (tg 18) (mLoad1 (tg 18)),
  im 3 20 (mCall 45 [(tg 19)]),
  ip 21 (pMov (tg 20)),
  gd 21 true (some 22) (il 22 (tg 2) (mLoadN 2 (tg 2))),
  gd 21 true (some 23) (ip 23 (pMov (tg 6))),
  gd 21 true (some 24) (im 3 24 (mCall 46 [(tg 22), (tg 23)])),
  gd 21 true (some 25) (ip 25 (pMov (tg 1))),
  gd 21 true (some 26) (ip 26 (pBin .eql (tg 24) (tg 25))),
  ip 27 (pPick (tg 21) (tg 26) (cv (.bool false)))]
@[simp] def o_r_Writes_5_ap := ops_rule (c := o_r_Writes_5) rfl
def o_r_Writes_6 : List IS := [ip 28 (pMov (tg 5)),
  ip 29 (pBin .add (tg 28) (cv (.int .i64 1))),
  ip 5 (pMov (tg 29))]
@[simp] def o_r_Writes_6_ap := ops_rule (c := o_r_Writes_6) rfl
def c_r_Writes_3 : SC := sCond (tg 27) (sReg (seqI o_r_Writes_6)) sSkip
@[simp] def c_r_Writes_3_ap := cond_rule (c := c_r_Writes_3) rfl
def c_r_Writes_4 : SC := sSeq (sReg (seqI o_r_Writes_5)) c_r_Writes_3
@[simp] def c_r_Writes_4_ap := seq_rule (c := c_r_Writes_4) rfl
def c_r_Writes_5 : SC := sBlock 1 c_r_Writes_4
@[simp] def c_r_Writes_5_ap := block_rule (c := c_r_Writes_5) rfl
def o_r_Writes_7 : List IS := [ip 12 (pMov (tg 6)),
  ip 13 (pBin .add (tg 12) (cv (.int .i64 1))),
  ip 6 (pMov (tg 13))]
@[simp] def o_r_Writes_7_ap := ops_rule (c := o_r_Writes_7) rfl
def c_r_Writes_6 : SC := sSeq c_r_Writes_5 (sReg (seqI o_r_Writes_7))
@[simp] def c_r_Writes_6_ap := seq_rule (c := c_r_Writes_6) rfl
def c_r_Writes_7 : SC := sSeq c_r_Writes_2 c_r_Writes_6
@[simp] def c_r_Writes_7_ap := seq_rule (c := c_r_Writes_7) rfl
def c_r_Writes_8 : SC := sLoop c_r_Writes_7
def c_r_Writes_9 : SC := sBlock 0 c_r_Writes_8
@[simp] def c_r_Writes_9_ap := block_rule (c := c_r_Writes_9) rfl
def c_r_Writes_10 : SC := sSeq (sReg (seqI o_r_Writes_3)) c_r_Writes_9
@[simp] def c_r_Writes_10_ap := seq_rule (c := c_r_Writes_10) rfl
def o_r_Writes_8 : List IS := [ip 30 (pMov (tg 5)),
  ip 4 (pMov (tg 30))]
@[simp] def o_r_Writes_8_ap := ops_rule (c := o_r_Writes_8) rfl
def c_r_Writes_11 : SC := sSeq (sReg (seqI o_r_Writes_8)) sRet
@[simp] def c_r_Writes_11_ap := seq_rule (c := c_r_Writes_11) rfl
def c_r_Writes_12 : SC := sSeq c_r_Writes_10 c_r_Writes_11
@[simp] def c_r_Writes_12_ap := seq_rule (c := c_r_Writes_12) rfl
def c_r_Writes_13 : SC := sSeq (sReg (seqI o_r_Writes_2)) c_r_Writes_12
@[simp] def c_r_Writes_13_ap := seq_rule (c := c_r_Writes_13) rfl
def c_r_Writes_14 : SC := sSeq (sReg (seqI o_r_Writes_1)) c_r_Writes_13
@[simp] def c_r_Writes_14_ap := seq_rule (c := c_r_Writes_14) rfl
def d_r_Writes : DFn := ⟨c_r_Writes_14, 31, [.t 4]⟩
theorem d_r_Writes_ok : fnOf Try.prog 18 = some d_r_Writes := by kernel_rfl
def o_w_Check_1 : List IS := [im 1 1 (mBox (tg 0)),
  ip 2 (pMov (cv (.int .i64 0))),
  ip 3 (pMov (cv (.int .i64 0)))]
@[simp] def o_w_Check_1_ap := ops_rule (c := o_w_Check_1) rfl
def o_w_Check_2 : List IS := [il 5 (tg 1) (mLoadN 2 (tg 1)),
  im 3 6 (mCall 38 [(tg 5)]),
  ip 4 (pMov (tg 6)),
  ip 7 (pExtract (tg 4) 0),
  ip 8 (pExtract (tg 4) 1),
  ip 9 (pExtract (tg 4) 2),
  ip 2 (pMov (tg 8)),
  ip 3 (pMov (tg 9))]
@[simp] def o_w_Check_2_ap := ops_rule (c := o_w_Check_2) rfl
def o_w_Check_3 : List IS := [ip 10 (pMov (tg 2)),
  ip 11 (pMov (tg 3)),
  ip 2 (pMov (tg 10)),
  ip 3 (pMov (tg 11))]
@[simp] def o_w_Check_3_ap := ops_rule (c := o_w_Check_3) rfl
def c_w_Check_1 : SC := sSeq (sReg (seqI o_w_Check_3)) sRet
@[simp] def c_w_Check_1_ap := seq_rule (c := c_w_Check_1) rfl
def c_w_Check_2 : SC := sSeq (sReg (seqI o_w_Check_2)) c_w_Check_1
@[simp] def c_w_Check_2_ap := seq_rule (c := c_w_Check_2) rfl
def c_w_Check_3 : SC := sSeq (sReg (seqI o_w_Check_1)) c_w_Check_2
@[simp] def c_w_Check_3_ap := seq_rule (c := c_w_Check_3) rfl
def d_w_Check : DFn := ⟨c_w_Check_3, 12, [.t 2, .t 3]⟩
theorem d_w_Check_ok : fnOf Try.prog 22 = some d_w_Check := by kernel_rfl
def o_w_Canon_1 : List IS := [im 1 1 (mBox (tg 0)),
  im 1 2 (mAlloc [(.slice none 0 0), (.slice none 0 0)])]
@[simp] def o_w_Canon_1_ap := ops_rule (c := o_w_Canon_1) rfl
def o_w_Canon_2 : List DA := [⟨CI.pure (pFaddr 0 (tg 1)), (some 6), none, 0, []⟩,
  ⟨CI.load (tg 6) (mLoad1 (tg 6)), (some 7), none, 1, []⟩,
  ⟨CI.mem 3 (mCall 56 [(tg 7)]), (some 8), none, 2, []⟩,
  ⟨CI.pure (pFaddr 1 (tg 1)), (some 9), none, 3, []⟩,
  ⟨CI.load (tg 9) (mLoad1 (tg 9)), (some 10), none, 4, [2]⟩,
  ⟨CI.mem 3 (mCall 57 [(tg 10)]), (some 11), none, 5, []⟩,
  ⟨CI.pure (pBuild [(.slice none 0 0), (.slice none 0 0)] [(0, 1, (tg 8)), (1, 1, (tg 11))]), (some 12), none, 6, []⟩,
  ⟨CI.mem 1 (mAlloc [(.slice none 0 0), (.slice none 0 0)]), (some 3), none, 7, []⟩,
  ⟨CI.mem 3 (mStore 2 (tg 3) (tg 12)), none, none, 8, []⟩]
@[simp] def o_w_Canon_2_ap := das_rule (c := o_w_Canon_2) rfl
def o_w_Canon_3 : List IS := [ip 13 (pFaddr 0 (tg 1)),
  il 14 (tg 13) (mLoad1 (tg 13)),
  ip 15 (pLen (tg 14)),
  ip 16 (pFaddr 1 (tg 1)),
  il 17 (tg 16) (mLoad1 (tg 16)),
  ip 18 (pLen (tg 17)),
  ip 19 (pBin .neq (tg 15) (tg 18))]
@[simp] def o_w_Canon_3_ap := ops_rule (c := o_w_Canon_3) rfl
def o_w_Canon_4 : List IS := [il 20 (tg 3) (mLoadN 2 (tg 3)),
  im0 3 (mStore 2 (tg 2) (tg 20))]
@[simp] def o_w_Canon_4_ap := ops_rule (c := o_w_Canon_4) rfl
def c_w_Canon_1 : SC := sSeq (sReg (seqI o_w_Canon_4)) sRet
@[simp] def c_w_Canon_1_ap := seq_rule (c := c_w_Canon_1) rfl
def c_w_Canon_2 : SC := sCond (tg 19) c_w_Canon_1 sSkip
@[simp] def c_w_Canon_2_ap := cond_rule (c := c_w_Canon_2) rfl
def c_w_Canon_3 : SC := sSeq (sReg (seqI o_w_Canon_3)) c_w_Canon_2
@[simp] def c_w_Canon_3_ap := seq_rule (c := c_w_Canon_3) rfl
def o_w_Canon_5 : List IS := [ip 21 (pFaddr 0 (tg 1)),
  il 22 (tg 21) (mLoad1 (tg 21)),
  ip 23 (pLen (tg 22)),
  ip 24 (pMov (cv (.int .i64 0)))]
@[simp] def o_w_Canon_5_ap := ops_rule (c := o_w_Canon_5) rfl
def o_w_Canon_6 : List IS := [ip 25 (pBin .lss (tg 24) (tg 23))]
@[simp] def o_w_Canon_6_ap := ops_rule (c := o_w_Canon_6) rfl
def c_w_Canon_4 : SC := sCond (tg 25) sSkip (sExit 0)
@[simp] def c_w_Canon_4_ap := cond_rule (c := c_w_Canon_4) rfl
def o_w_Canon_7 : List IS := [ip 26 (pMov (tg 24)),
  ip 4 (pMov (tg 26))]
@[simp] def o_w_Canon_7_ap := ops_rule (c := o_w_Canon_7) rfl
def o_w_Canon_8 : List IS := [il 27 (tg 1) (mLoadN 2 (tg 1)),
  ip 28 (pMov (tg 4)),
  im 3 29 (mCall 58 [(tg 27), (tg 28)]),
  im 1 5 (mAlloc [(.slice none 0 0), (.slice none 0 0)]),
  im0 3 (mStore 2 (tg 5) (tg 29))]
@[simp] def o_w_Canon_8_ap := ops_rule (c := o_w_Canon_8) rfl
def o_w_Canon_9 : List IS := [il 30 (tg 5) (mLoadN 2 (tg 5)),
  il 31 (tg 3) (mLoadN 2 (tg 3)),
  im 3 32 (mCall 59 [(tg 30), (tg 31)]),
  ip 33 (pBin .lss (tg 32) (cv (.int .i64 0)))]
@[simp] def o_w_Canon_9_ap := ops_rule (c := o_w_Canon_9) rfl
def o_w_Canon_10 : List IS := [il 34 (tg 5) (mLoadN 2 (tg 5)),
  im0 3 (mStore 2 (tg 3) (tg 34))]
@[simp] def o_w_Canon_10_ap := ops_rule (c := o_w_Canon_10) rfl
def c_w_Canon_5 : SC := sCond (tg 33) (sReg (seqI o_w_Canon_10)) sSkip
@[simp] def c_w_Canon_5_ap := cond_rule (c := c_w_Canon_5) rfl
def c_w_Canon_6 : SC := sSeq (sReg (seqI o_w_Canon_9)) c_w_Canon_5
@[simp] def c_w_Canon_6_ap := seq_rule (c := c_w_Canon_6) rfl
def c_w_Canon_7 : SC := sSeq (sReg (seqI o_w_Canon_8)) c_w_Canon_6
@[simp] def c_w_Canon_7_ap := seq_rule (c := c_w_Canon_7) rfl
def c_w_Canon_8 : SC := sSeq (sReg (seqI o_w_Canon_7)) c_w_Canon_7
@[simp] def c_w_Canon_8_ap := seq_rule (c := c_w_Canon_8) rfl
def c_w_Canon_9 : SC := sBlock 1 c_w_Canon_8
@[simp] def c_w_Canon_9_ap := block_rule (c := c_w_Canon_9) rfl
def o_w_Canon_11 : List IS := [ip 35 (pBin .add (tg 24) (cv (.int .i64 1))),
  ip 24 (pMov (tg 35))]
@[simp] def o_w_Canon_11_ap := ops_rule (c := o_w_Canon_11) rfl
def c_w_Canon_10 : SC := sSeq c_w_Canon_9 (sReg (seqI o_w_Canon_11))
@[simp] def c_w_Canon_10_ap := seq_rule (c := c_w_Canon_10) rfl
def c_w_Canon_11 : SC := sSeq c_w_Canon_4 c_w_Canon_10
@[simp] def c_w_Canon_11_ap := seq_rule (c := c_w_Canon_11) rfl
def c_w_Canon_12 : SC := sSeq (sReg (seqI o_w_Canon_6)) c_w_Canon_11
@[simp] def c_w_Canon_12_ap := seq_rule (c := c_w_Canon_12) rfl
def c_w_Canon_13 : SC := sLoop c_w_Canon_12
def c_w_Canon_14 : SC := sBlock 0 c_w_Canon_13
@[simp] def c_w_Canon_14_ap := block_rule (c := c_w_Canon_14) rfl
def c_w_Canon_15 : SC := sSeq (sReg (seqI o_w_Canon_5)) c_w_Canon_14
@[simp] def c_w_Canon_15_ap := seq_rule (c := c_w_Canon_15) rfl
def o_w_Canon_12 : List IS := [il 36 (tg 3) (mLoadN 2 (tg 3)),
  im0 3 (mStore 2 (tg 2) (tg 36))]
@[simp] def o_w_Canon_12_ap := ops_rule (c := o_w_Canon_12) rfl
def c_w_Canon_16 : SC := sSeq (sReg (seqI o_w_Canon_12)) sRet
@[simp] def c_w_Canon_16_ap := seq_rule (c := c_w_Canon_16) rfl
def c_w_Canon_17 : SC := sSeq c_w_Canon_15 c_w_Canon_16
@[simp] def c_w_Canon_17_ap := seq_rule (c := c_w_Canon_17) rfl
def c_w_Canon_18 : SC := sSeq c_w_Canon_3 c_w_Canon_17
@[simp] def c_w_Canon_18_ap := seq_rule (c := c_w_Canon_18) rfl
def c_w_Canon_19 : SC := sSeq (sAny o_w_Canon_2) c_w_Canon_18
@[simp] def c_w_Canon_19_ap := seq_rule (c := c_w_Canon_19) rfl
def c_w_Canon_20 : SC := sSeq (sReg (seqI o_w_Canon_1)) c_w_Canon_19
@[simp] def c_w_Canon_20_ap := seq_rule (c := c_w_Canon_20) rfl
def d_w_Canon : DFn := ⟨c_w_Canon_20, 37, [.cell 2 2]⟩
theorem d_w_Canon_ok : fnOf Try.prog 28 = some d_w_Canon := by kernel_rfl
def o_r_Same_1 : List IS := [im 1 2 (mBox (tg 0)),
  im 1 3 (mBox (tg 1)),
  ip 4 (pMov (cv (.bool false)))]
@[simp] def o_r_Same_1_ap := ops_rule (c := o_r_Same_1) rfl
def o_r_Same_2 : List IS := [ip 7 (pFaddr 0 (tg 2)),
  il 8 (tg 7) (mLoad1 (tg 7)),
  ip 9 (pLen (tg 8)),
  ip 10 (pFaddr 0 (tg 3)),
  il 11 (tg 10) (mLoad1 (tg 10)),
  ip 12 (pLen (tg 11)),
  ip 13 (pBin .neq (tg 9) (tg 12)),
  ip 14 (pMov (tg 13)),
  gd 14 false (some 15) (ip 15 (pFaddr 1 (tg 2))),
  gd 14 false (some 16) (il 16 (tg 15) (mLoad1 (tg 15))),
  gd 14 false (some 17) (ip 17 (pLen (tg 16))),
  gd 14 false (some 18) (ip 18 (pFaddr 1 (tg 3))),
  gd 14 false (some 19) (il 19 (tg 18) (mLoad1 (tg 18))),
  gd 14 false (some 20) (ip 20 (pLen (tg 19))),
  gd 14 false (some 21) (ip 21 (pBin .neq (tg 17) (tg 20))),
  ip 22 (pPick (tg 14) (cv (.bool true)) (tg 21))]
@[simp] def o_r_Same_2_ap := ops_rule (c := o_r_Same_2) rfl
def o_r_Same_3 : List IS := [ip 4 (pMov (cv (.bool false)))]
@[simp] def o_r_Same_3_ap := ops_rule (c := o_r_Same_3) rfl
def c_r_Same_1 : SC := sSeq (sReg (seqI o_r_Same_3)) sRet
@[simp] def c_r_Same_1_ap := seq_rule (c := c_r_Same_1) rfl
def c_r_Same_2 : SC := sCond (tg 22) c_r_Same_1 sSkip
@[simp] def c_r_Same_2_ap := cond_rule (c := c_r_Same_2) rfl
def c_r_Same_3 : SC := sSeq (sReg (seqI o_r_Same_2)) c_r_Same_2
@[simp] def c_r_Same_3_ap := seq_rule (c := c_r_Same_3) rfl
def o_r_Same_4 : List IS := [ip 5 (pMov (cv (.int .i64 0)))]
@[simp] def o_r_Same_4_ap := ops_rule (c := o_r_Same_4) rfl
def o_r_Same_5 : List IS := [ip 23 (pMov (tg 5)),
  ip 24 (pFaddr 0 (tg 2)),
  il 25 (tg 24) (mLoad1 (tg 24)),
  ip 26 (pLen (tg 25)),
  ip 27 (pBin .lss (tg 23) (tg 26))]
@[simp] def o_r_Same_5_ap := ops_rule (c := o_r_Same_5) rfl
def c_r_Same_4 : SC := sCond (tg 27) sSkip (sExit 0)
@[simp] def c_r_Same_4_ap := cond_rule (c := c_r_Same_4) rfl
def c_r_Same_5 : SC := sSeq (sReg (seqI o_r_Same_5)) c_r_Same_4
@[simp] def c_r_Same_5_ap := seq_rule (c := c_r_Same_5) rfl
def o_r_Same_6 : List DA := [⟨CI.pure (pFaddr 0 (tg 2)), (some 30), none, 0, []⟩,
  ⟨CI.load (tg 30) (mLoad1 (tg 30)), (some 31), none, 1, []⟩,
  ⟨CI.pure (pMov (tg 5)), (some 32), none, 2, []⟩,
  ⟨CI.pure (pIaddrS 2 (tg 31) (tg 32)), (some 33), none, 3, []⟩,
  ⟨CI.load (tg 33) (mLoadN 2 (tg 33)), (some 34), none, 4, []⟩,
  ⟨CI.pure (pFaddr 0 (tg 3)), (some 35), none, 5, []⟩,
  ⟨CI.load (tg 35) (mLoad1 (tg 35)), (some 36), none, 6, []⟩,
  ⟨CI.pure (pMov (tg 5)), (some 37), none, 7, []⟩,
  ⟨CI.pure (pIaddrS 2 (tg 36) (tg 37)), (some 38), none, 8, []⟩,
  ⟨CI.load (tg 38) (mLoadN 2 (tg 38)), (some 39), none, 9, []⟩,
  ⟨CI.pure (pEqF true [1, 1] (tg 34) (tg 39)), (some 40), none, 10, []⟩]
@[simp] def o_r_Same_6_ap := das_rule (c := o_r_Same_6) rfl
def o_r_Same_7 : List IS := [ip 4 (pMov (cv (.bool false)))]
@[simp] def o_r_Same_7_ap := ops_rule (c := o_r_Same_7) rfl
def c_r_Same_6 : SC := sSeq (sReg (seqI o_r_Same_7)) sRet
@[simp] def c_r_Same_6_ap := seq_rule (c := c_r_Same_6) rfl
def c_r_Same_7 : SC := sCond (tg 40) c_r_Same_6 sSkip
@[simp] def c_r_Same_7_ap := cond_rule (c := c_r_Same_7) rfl
def c_r_Same_8 : SC := sSeq (sAny o_r_Same_6) c_r_Same_7
@[simp] def c_r_Same_8_ap := seq_rule (c := c_r_Same_8) rfl
def c_r_Same_9 : SC := sBlock 1 c_r_Same_8
@[simp] def c_r_Same_9_ap := block_rule (c := c_r_Same_9) rfl
def o_r_Same_8 : List IS := [ip 28 (pMov (tg 5)),
  ip 29 (pBin .add (tg 28) (cv (.int .i64 1))),
  ip 5 (pMov (tg 29))]
@[simp] def o_r_Same_8_ap := ops_rule (c := o_r_Same_8) rfl
def c_r_Same_10 : SC := sSeq c_r_Same_9 (sReg (seqI o_r_Same_8))
@[simp] def c_r_Same_10_ap := seq_rule (c := c_r_Same_10) rfl
def c_r_Same_11 : SC := sSeq c_r_Same_5 c_r_Same_10
@[simp] def c_r_Same_11_ap := seq_rule (c := c_r_Same_11) rfl
def c_r_Same_12 : SC := sLoop c_r_Same_11
def c_r_Same_13 : SC := sBlock 0 c_r_Same_12
@[simp] def c_r_Same_13_ap := block_rule (c := c_r_Same_13) rfl
def c_r_Same_14 : SC := sSeq (sReg (seqI o_r_Same_4)) c_r_Same_13
@[simp] def c_r_Same_14_ap := seq_rule (c := c_r_Same_14) rfl
def o_r_Same_9 : List IS := [ip 6 (pMov (cv (.int .i64 0)))]
@[simp] def o_r_Same_9_ap := ops_rule (c := o_r_Same_9) rfl
def o_r_Same_10 : List IS := [ip 41 (pMov (tg 6)),
  ip 42 (pFaddr 1 (tg 2)),
  il 43 (tg 42) (mLoad1 (tg 42)),
  ip 44 (pLen (tg 43)),
  ip 45 (pBin .lss (tg 41) (tg 44))]
@[simp] def o_r_Same_10_ap := ops_rule (c := o_r_Same_10) rfl
def c_r_Same_15 : SC := sCond (tg 45) sSkip (sExit 2)
@[simp] def c_r_Same_15_ap := cond_rule (c := c_r_Same_15) rfl
def c_r_Same_16 : SC := sSeq (sReg (seqI o_r_Same_10)) c_r_Same_15
@[simp] def c_r_Same_16_ap := seq_rule (c := c_r_Same_16) rfl
def o_r_Same_11 : List DA := [⟨CI.pure (pFaddr 1 (tg 2)), (some 48), none, 0, []⟩,
  ⟨CI.load (tg 48) (mLoad1 (tg 48)), (some 49), none, 1, []⟩,
  ⟨CI.pure (pMov (tg 6)), (some 50), none, 2, []⟩,
  ⟨CI.pure (pIaddrS 1 (tg 49) (tg 50)), (some 51), none, 3, []⟩,
  ⟨CI.load (tg 51) (mLoad1 (tg 51)), (some 52), none, 4, []⟩,
  ⟨CI.pure (pFaddr 1 (tg 3)), (some 53), none, 5, []⟩,
  ⟨CI.load (tg 53) (mLoad1 (tg 53)), (some 54), none, 6, []⟩,
  ⟨CI.pure (pMov (tg 6)), (some 55), none, 7, []⟩,
  ⟨CI.pure (pIaddrS 1 (tg 54) (tg 55)), (some 56), none, 8, []⟩,
  ⟨CI.load (tg 56) (mLoad1 (tg 56)), (some 57), none, 9, []⟩,
  ⟨CI.pure (pBin .neq (tg 52) (tg 57)), (some 58), none, 10, []⟩]
@[simp] def o_r_Same_11_ap := das_rule (c := o_r_Same_11) rfl
def o_r_Same_12 : List IS := [ip 4 (pMov (cv (.bool false)))]
@[simp] def o_r_Same_12_ap := ops_rule (c := o_r_Same_12) rfl
def c_r_Same_17 : SC := sSeq (sReg (seqI o_r_Same_12)) sRet
@[simp] def c_r_Same_17_ap := seq_rule (c := c_r_Same_17) rfl
def c_r_Same_18 : SC := sCond (tg 58) c_r_Same_17 sSkip
@[simp] def c_r_Same_18_ap := cond_rule (c := c_r_Same_18) rfl
def c_r_Same_19 : SC := sSeq (sAny o_r_Same_11) c_r_Same_18
@[simp] def c_r_Same_19_ap := seq_rule (c := c_r_Same_19) rfl
def c_r_Same_20 : SC := sBlock 3 c_r_Same_19
@[simp] def c_r_Same_20_ap := block_rule (c := c_r_Same_20) rfl
def o_r_Same_13 : List IS := [ip 46 (pMov (tg 6)),
  ip 47 (pBin .add (tg 46) (cv (.int .i64 1))),
  ip 6 (pMov (tg 47))]
@[simp] def o_r_Same_13_ap := ops_rule (c := o_r_Same_13) rfl
def c_r_Same_21 : SC := sSeq c_r_Same_20 (sReg (seqI o_r_Same_13))
@[simp] def c_r_Same_21_ap := seq_rule (c := c_r_Same_21) rfl
def c_r_Same_22 : SC := sSeq c_r_Same_16 c_r_Same_21
@[simp] def c_r_Same_22_ap := seq_rule (c := c_r_Same_22) rfl
def c_r_Same_23 : SC := sLoop c_r_Same_22
def c_r_Same_24 : SC := sBlock 2 c_r_Same_23
@[simp] def c_r_Same_24_ap := block_rule (c := c_r_Same_24) rfl
def c_r_Same_25 : SC := sSeq (sReg (seqI o_r_Same_9)) c_r_Same_24
@[simp] def c_r_Same_25_ap := seq_rule (c := c_r_Same_25) rfl
def o_r_Same_14 : List IS := [ip 4 (pMov (cv (.bool true)))]
@[simp] def o_r_Same_14_ap := ops_rule (c := o_r_Same_14) rfl
def c_r_Same_26 : SC := sSeq (sReg (seqI o_r_Same_14)) sRet
@[simp] def c_r_Same_26_ap := seq_rule (c := c_r_Same_26) rfl
def c_r_Same_27 : SC := sSeq c_r_Same_25 c_r_Same_26
@[simp] def c_r_Same_27_ap := seq_rule (c := c_r_Same_27) rfl
def c_r_Same_28 : SC := sSeq c_r_Same_14 c_r_Same_27
@[simp] def c_r_Same_28_ap := seq_rule (c := c_r_Same_28) rfl
def c_r_Same_29 : SC := sSeq c_r_Same_3 c_r_Same_28
@[simp] def c_r_Same_29_ap := seq_rule (c := c_r_Same_29) rfl
def c_r_Same_30 : SC := sSeq (sReg (seqI o_r_Same_1)) c_r_Same_29
@[simp] def c_r_Same_30_ap := seq_rule (c := c_r_Same_30) rfl
def d_r_Same : DFn := ⟨c_r_Same_30, 59, [.t 4]⟩
theorem d_r_Same_ok : fnOf Try.prog 29 = some d_r_Same := by kernel_rfl
def o_r_Canon_1 : List IS := [im 1 1 (mBox (tg 0)),
  im 1 2 (mAlloc [(.slice none 0 0), (.slice none 0 0)])]
@[simp] def o_r_Canon_1_ap := ops_rule (c := o_r_Canon_1) rfl
def o_r_Canon_2 : List IS := [ip 6 (pFaddr 0 (tg 1)),
  il 7 (tg 6) (mLoad1 (tg 6)),
  ip 8 (pLen (tg 7)),
  ip 9 (pFaddr 1 (tg 1)),
  il 10 (tg 9) (mLoad1 (tg 9)),
  ip 11 (pLen (tg 10)),
  ip 12 (pBin .neq (tg 8) (tg 11))]
@[simp] def o_r_Canon_2_ap := ops_rule (c := o_r_Canon_2) rfl
def o_r_Canon_3 : List IS := [il 13 (tg 1) (mLoadN 2 (tg 1)),
  im0 3 (mStore 2 (tg 2) (tg 13))]
@[simp] def o_r_Canon_3_ap := ops_rule (c := o_r_Canon_3) rfl
def c_r_Canon_1 : SC := sSeq (sReg (seqI o_r_Canon_3)) sRet
@[simp] def c_r_Canon_1_ap := seq_rule (c := c_r_Canon_1) rfl
def c_r_Canon_2 : SC := sCond (tg 12) c_r_Canon_1 sSkip
@[simp] def c_r_Canon_2_ap := cond_rule (c := c_r_Canon_2) rfl
def c_r_Canon_3 : SC := sSeq (sReg (seqI o_r_Canon_2)) c_r_Canon_2
@[simp] def c_r_Canon_3_ap := seq_rule (c := c_r_Canon_3) rfl
def o_r_Canon_4 : List IS := [il 14 (tg 1) (mLoadN 2 (tg 1)),
  im 1 3 (mAlloc [(.slice none 0 0), (.slice none 0 0)]),
  im0 3 (mStore 2 (tg 3) (tg 14))]
@[simp] def o_r_Canon_4_ap := ops_rule (c := o_r_Canon_4) rfl
def o_r_Canon_5 : List IS := [ip 4 (pMov (cv (.int .i64 1)))]
@[simp] def o_r_Canon_5_ap := ops_rule (c := o_r_Canon_5) rfl
def o_r_Canon_6 : List IS := [ip 15 (pMov (tg 4)),
  ip 16 (pFaddr 0 (tg 1)),
  il 17 (tg 16) (mLoad1 (tg 16)),
  ip 18 (pLen (tg 17)),
  ip 19 (pBin .lss (tg 15) (tg 18))]
@[simp] def o_r_Canon_6_ap := ops_rule (c := o_r_Canon_6) rfl
def c_r_Canon_4 : SC := sCond (tg 19) sSkip (sExit 0)
@[simp] def c_r_Canon_4_ap := cond_rule (c := c_r_Canon_4) rfl
def c_r_Canon_5 : SC := sSeq (sReg (seqI o_r_Canon_6)) c_r_Canon_4
@[simp] def c_r_Canon_5_ap := seq_rule (c := c_r_Canon_5) rfl
def o_r_Canon_7 : List IS := [il 22 (tg 1) (mLoadN 2 (tg 1)),
  ip 23 (pMov (tg 4)),
  im 3 24 (mCall 60 [(tg 22), (tg 23)]),
  im 1 5 (mAlloc [(.slice none 0 0), (.slice none 0 0)]),
  im0 3 (mStore 2 (tg 5) (tg 24))]
@[simp] def o_r_Canon_7_ap := ops_rule (c := o_r_Canon_7) rfl
def o_r_Canon_8 : List IS := [il 25 (tg 5) (mLoadN 2 (tg 5)),
  il 26 (tg 3) (mLoadN 2 (tg 3)),
  im 3 27 (mCall 61 [(tg 25), (tg 26)])]
@[simp] def o_r_Canon_8_ap := ops_rule (c := o_r_Canon_8) rfl
def o_r_Canon_9 : List IS := [il 28 (tg 5) (mLoadN 2 (tg 5)),
  im0 3 (mStore 2 (tg 3) (tg 28))]
@[simp] def o_r_Canon_9_ap := ops_rule (c := o_r_Canon_9) rfl
def c_r_Canon_6 : SC := sCond (tg 27) (sReg (seqI o_r_Canon_9)) sSkip
@[simp] def c_r_Canon_6_ap := cond_rule (c := c_r_Canon_6) rfl
def c_r_Canon_7 : SC := sSeq (sReg (seqI o_r_Canon_8)) c_r_Canon_6
@[simp] def c_r_Canon_7_ap := seq_rule (c := c_r_Canon_7) rfl
def c_r_Canon_8 : SC := sSeq (sReg (seqI o_r_Canon_7)) c_r_Canon_7
@[simp] def c_r_Canon_8_ap := seq_rule (c := c_r_Canon_8) rfl
def c_r_Canon_9 : SC := sBlock 1 c_r_Canon_8
@[simp] def c_r_Canon_9_ap := block_rule (c := c_r_Canon_9) rfl
def o_r_Canon_10 : List IS := [ip 20 (pMov (tg 4)),
  ip 21 (pBin .add (tg 20) (cv (.int .i64 1))),
  ip 4 (pMov (tg 21))]
@[simp] def o_r_Canon_10_ap := ops_rule (c := o_r_Canon_10) rfl
def c_r_Canon_10 : SC := sSeq c_r_Canon_9 (sReg (seqI o_r_Canon_10))
@[simp] def c_r_Canon_10_ap := seq_rule (c := c_r_Canon_10) rfl
def c_r_Canon_11 : SC := sSeq c_r_Canon_5 c_r_Canon_10
@[simp] def c_r_Canon_11_ap := seq_rule (c := c_r_Canon_11) rfl
def c_r_Canon_12 : SC := sLoop c_r_Canon_11
def c_r_Canon_13 : SC := sBlock 0 c_r_Canon_12
@[simp] def c_r_Canon_13_ap := block_rule (c := c_r_Canon_13) rfl
def c_r_Canon_14 : SC := sSeq (sReg (seqI o_r_Canon_5)) c_r_Canon_13
@[simp] def c_r_Canon_14_ap := seq_rule (c := c_r_Canon_14) rfl
def o_r_Canon_11 : List IS := [il 29 (tg 3) (mLoadN 2 (tg 3)),
  im0 3 (mStore 2 (tg 2) (tg 29))]
@[simp] def o_r_Canon_11_ap := ops_rule (c := o_r_Canon_11) rfl
def c_r_Canon_15 : SC := sSeq (sReg (seqI o_r_Canon_11)) sRet
@[simp] def c_r_Canon_15_ap := seq_rule (c := c_r_Canon_15) rfl
def c_r_Canon_16 : SC := sSeq c_r_Canon_14 c_r_Canon_15
@[simp] def c_r_Canon_16_ap := seq_rule (c := c_r_Canon_16) rfl
def c_r_Canon_17 : SC := sSeq (sReg (seqI o_r_Canon_4)) c_r_Canon_16
@[simp] def c_r_Canon_17_ap := seq_rule (c := c_r_Canon_17) rfl
def c_r_Canon_18 : SC := sSeq c_r_Canon_3 c_r_Canon_17
@[simp] def c_r_Canon_18_ap := seq_rule (c := c_r_Canon_18) rfl
def c_r_Canon_19 : SC := sSeq (sReg (seqI o_r_Canon_1)) c_r_Canon_18
@[simp] def c_r_Canon_19_ap := seq_rule (c := c_r_Canon_19) rfl
def d_r_Canon : DFn := ⟨c_r_Canon_19, 30, [.cell 2 2]⟩
theorem d_r_Canon_ok : fnOf Try.prog 30 = some d_r_Canon := by kernel_rfl
def o_w_All_1 : List IS := [im 1 1 (mBox (tg 0)),
  ip 2 (pMov (cv (.slice none 0 0))),
  ip 3 (pMov (cv (.int .i64 0)))]
@[simp] def o_w_All_1_ap := ops_rule (c := o_w_All_1) rfl
def o_w_All_2 : List IS := [il 7 (tg 1) (mLoad1 (tg 1)),
  ip 8 (pBin .lss (tg 7) (cv (.int .i64 3))),
  ip 9 (pMov (tg 8)),
  gd 9 false (some 10) (il 10 (tg 1) (mLoad1 (tg 1))),
  gd 9 false (some 11) (ip 11 (pBin .gtr (tg 10) (cv (.int .i64 6)))),
  ip 12 (pPick (tg 9) (cv (.bool true)) (tg 11))]
@[simp] def o_w_All_2_ap := ops_rule (c := o_w_All_2) rfl
def o_w_All_3 : List IS := [ip 2 (pMov (cv (.slice none 0 0))),
  ip 3 (pMov (cv (.int .i64 1)))]
@[simp] def o_w_All_3_ap := ops_rule (c := o_w_All_3) rfl
def c_w_All_1 : SC := sSeq (sReg (seqI o_w_All_3)) sRet
@[simp] def c_w_All_1_ap := seq_rule (c := c_w_All_1) rfl
def c_w_All_2 : SC := sCond (tg 12) c_w_All_1 sSkip
@[simp] def c_w_All_2_ap := cond_rule (c := c_w_All_2) rfl
def c_w_All_3 : SC := sSeq (sReg (seqI o_w_All_2)) c_w_All_2
@[simp] def c_w_All_3_ap := seq_rule (c := c_w_All_3) rfl
def o_w_All_4 : List IS := [im 1 4 (mAlloc [(.slice none 0 0)])]
@[simp] def o_w_All_4_ap := ops_rule (c := o_w_All_4) rfl
def o_w_All_5 : List DA := [⟨CI.load (tg 1) (mLoad1 (tg 1)), (some 13), none, 0, []⟩,
  ⟨CI.mem 1 (mMkslice 2 16 [(.int .i64 0), (.int .i64 0)] (tg 13) (tg 13)), (some 14), none, 1, []⟩,
  ⟨CI.mem 1 (mBslice 1 1 (rep 1 [(.int .i64 0)]) [(0, 1, (cv (.int .i64 1)))]), (some 15), none, 2, []⟩,
  ⟨CI.load (tg 1) (mLoad1 (tg 1)), (some 16), none, 3, []⟩,
  ⟨CI.mem 3 (mCall 62 [(tg 15), (tg 16)]), (some 17), none, 4, [0]⟩,
  ⟨CI.pure (pBuild [(.slice none 0 0), (.slice none 0 0)] [(0, 1, (tg 14)), (1, 1, (tg 17))]), (some 18), none, 5, []⟩,
  ⟨CI.mem 1 (mAlloc [(.slice none 0 0), (.slice none 0 0)]), (some 5), none, 6, []⟩,
  ⟨CI.mem 3 (mStore 2 (tg 5) (tg 18)), none, none, 7, []⟩]
@[simp] def o_w_All_5_ap := das_rule (c := o_w_All_5) rfl
def o_w_All_6 : List IS := [im 1 6 (mAlloc [.nilFunc])]
@[simp] def o_w_All_6_ap := ops_rule (c := o_w_All_6) rfl
def o_w_All_7 : List IS := [ip 19 (pMkfn 63 [] [(tg 1), (tg 5), (tg 4), (tg 6)]),
  im0 3 (mStore 1 (tg 6) (tg 19))]
@[simp] def o_w_All_7_ap := ops_rule (c := o_w_All_7) rfl
def o_w_All_8 : List IS := [il 20 (tg 6) (mLoad1 (tg 6)),
  im 3 21 (mCallv (tg 20) [(cv (.int .i64 0))])]
@[simp] def o_w_All_8_ap := ops_rule (c := o_w_All_8) rfl
def o_w_All_9 : List IS := [il 22 (tg 4) (mLoad1 (tg 4)),
  ip 2 (pMov (tg 22)),
  ip 3 (pMov (cv (.int .i64 0)))]
@[simp] def o_w_All_9_ap := ops_rule (c := o_w_All_9) rfl
def c_w_All_4 : SC := sSeq (sReg (seqI o_w_All_9)) sRet
@[simp] def c_w_All_4_ap := seq_rule (c := c_w_All_4) rfl
def c_w_All_5 : SC := sSeq (sReg (seqI o_w_All_8)) c_w_All_4
@[simp] def c_w_All_5_ap := seq_rule (c := c_w_All_5) rfl
def c_w_All_6 : SC := sSeq (sReg (seqI o_w_All_7)) c_w_All_5
@[simp] def c_w_All_6_ap := seq_rule (c := c_w_All_6) rfl
def c_w_All_7 : SC := sSeq (sReg (seqI o_w_All_6)) c_w_All_6
@[simp] def c_w_All_7_ap := seq_rule (c := c_w_All_7) rfl
def c_w_All_8 : SC := sSeq (sAny o_w_All_5) c_w_All_7
@[simp] def c_w_All_8_ap := seq_rule (c := c_w_All_8) rfl
def c_w_All_9 : SC := sSeq (sReg (seqI o_w_All_4)) c_w_All_8
@[simp] def c_w_All_9_ap := seq_rule (c := c_w_All_9) rfl
def c_w_All_10 : SC := sSeq c_w_All_3 c_w_All_9
@[simp] def c_w_All_10_ap := seq_rule (c := c_w_All_10) rfl
def c_w_All_11 : SC := sSeq (sReg (seqI o_w_All_1)) c_w_All_10
@[simp] def c_w_All_11_ap := seq_rule (c := c_w_All_11) rfl
def d_w_All : DFn := ⟨c_w_All_11, 23, [.t 2, .t 3]⟩
theorem d_w_All_ok : fnOf Try.prog 32 = some d_w_All := by kernel_rfl
def o_r_All_1 : List IS := [ip 2 (pMov (cv (.slice none 0 0)))]
@[simp] def o_r_All_1_ap := ops_rule (c := o_r_All_1) rfl
def o_r_All_2 : List IS := [ip 3 (pMov (cv (.slice none 0 0)))]
@[simp] def o_r_All_2_ap := ops_rule (c := o_r_All_2) rfl
def o_r_All_3 : List IS := [ip 4 (pMov (cv (.int .i64 1)))]
@[simp] def o_r_All_3_ap := ops_rule (c := o_r_All_3) rfl
def o_r_All_4 : List IS := [ip 5 (pMov (cv (.int .i64 0)))]
@[simp] def o_r_All_4_ap := ops_rule (c := o_r_All_4) rfl
def o_r_All_5 : List IS := [ip 16 (pMov (tg 5)),
  ip 17 (pMov (tg 0)),
  ip 18 (pBin .lss (tg 16) (tg 17))]
@[simp] def o_r_All_5_ap := ops_rule (c := o_r_All_5) rfl
def c_r_All_1 : SC := sCond (tg 18) sSkip (sExit 0)
@[simp] def c_r_All_1_ap := cond_rule (c := c_r_All_1) rfl
def c_r_All_2 : SC := sSeq (sReg (seqI o_r_All_5)) c_r_All_1
@[simp] def c_r_All_2_ap := seq_rule (c := c_r_All_2) rfl
def o_r_All_6 : List IS := [ip 21 (pMov (tg 4)),
  ip 22 (pBin .mul (tg 21) (cv (.int .i64 7))),
  ip 4 (pMov (tg 22))]
@[simp] def o_r_All_6_ap := ops_rule (c := o_r_All_6) rfl
def c_r_All_3 : SC := sBlock 1 (sReg (seqI o_r_All_6))
@[simp] def c_r_All_3_ap := block_rule (c := c_r_All_3) rfl
def o_r_All_7 : List IS := [ip 19 (pMov (tg 5)),
  ip 20 (pBin .add (tg 19) (cv (.int .i64 1))),
  ip 5 (pMov (tg 20))]
@[simp] def o_r_All_7_ap := ops_rule (c := o_r_All_7) rfl
def c_r_All_4 : SC := sSeq c_r_All_3 (sReg (seqI o_r_All_7))
@[simp] def c_r_All_4_ap := seq_rule (c := c_r_All_4) rfl
def c_r_All_5 : SC := sSeq c_r_All_2 c_r_All_4
@[simp] def c_r_All_5_ap := seq_rule (c := c_r_All_5) rfl
def c_r_All_6 : SC := sLoop c_r_All_5
def c_r_All_7 : SC := sBlock 0 c_r_All_6
@[simp] def c_r_All_7_ap := block_rule (c := c_r_All_7) rfl
def c_r_All_8 : SC := sSeq (sReg (seqI o_r_All_4)) c_r_All_7
@[simp] def c_r_All_8_ap := seq_rule (c := c_r_All_8) rfl
def o_r_All_8 : List IS := [ip 6 (pMov (cv (.int .i64 0)))]
@[simp] def o_r_All_8_ap := ops_rule (c := o_r_All_8) rfl
def o_r_All_9 : List IS := [ip 23 (pMov (tg 6)),
  ip 24 (pMov (tg 4)),
  ip 25 (pBin .lss (tg 23) (tg 24))]
@[simp] def o_r_All_9_ap := ops_rule (c := o_r_All_9) rfl
def c_r_All_9 : SC := sCond (tg 25) sSkip (sExit 2)
@[simp] def c_r_All_9_ap := cond_rule (c := c_r_All_9) rfl
def c_r_All_10 : SC := sSeq (sReg (seqI o_r_All_9)) c_r_All_9
@[simp] def c_r_All_10_ap := seq_rule (c := c_r_All_10) rfl
def o_r_All_10 : List IS := [im 1 7 (mAlloc [(.slice none 0 0), (.slice none 0 0)])]
@[simp] def o_r_All_10_ap := ops_rule (c := o_r_All_10) rfl
def o_r_All_11 : List IS := [ip 28 (pMov (tg 6)),
  ip 8 (pMov (tg 28))]
@[simp] def o_r_All_11_ap := ops_rule (c := o_r_All_11) rfl
def o_r_All_12 : List IS := [ip 29 (pMov (tg 4)),
  ip 30 (pBin .quo (tg 29) (cv (.int .i64 7))),
  ip 9 (pMov (tg 30))]
@[simp] def o_r_All_12_ap := ops_rule (c := o_r_All_12) rfl
def o_r_All_13 : List IS := [ip 10 (pMov (cv (.bool true)))]
@[simp] def o_r_All_13_ap := ops_rule (c := o_r_All_13) rfl
def o_r_All_14 : List IS := [ip 11 (pMov (cv (.int .i64 0)))]
@[simp] def o_r_All_14_ap := ops_rule (c := o_r_All_14) rfl
def o_r_All_15 : List IS := [ip 31 (pMov (tg 11)),
  ip 32 (pMov (tg 0)),
  ip 33 (pBin .lss (tg 31) (tg 32))]
@[simp] def o_r_All_15_ap := ops_rule (c := o_r_All_15) rfl
def c_r_All_11 : SC := sCond (tg 33) sSkip (sExit 4)
@[simp] def c_r_All_11_ap := cond_rule (c := c_r_All_11) rfl
def c_r_All_12 : SC := sSeq (sReg (seqI o_r_All_15)) c_r_All_11
@[simp] def c_r_All_12_ap := seq_rule (c := c_r_All_12) rfl
def o_r_All_16 : List DA := [⟨CI.pure (pFaddr 0 (tg 7)), (some 36), none, 0, []⟩,
  ⟨CI.load (tg 36) (mLoad1 (tg 36)), (some 37), none, 1, []⟩,
  ⟨CI.pure (pMov (tg 8)), (some 38), none, 2, []⟩,
  ⟨CI.pure (pMov (tg 9)), (some 39), none, 3, []⟩,
  ⟨CI.pure (pBin .quo (tg 38) (tg 39)), (some 40), none, 4, []⟩,
  ⟨CI.pure (pBin .add (tg 40) (cv (.int .i64 1))), (some 41), none, 5, []⟩,
  ⟨CI.pure (pBuild [(.int .i64 0), (.int .i64 0)] [(0, 1, (tg 41)), (1, 1, (cv (.int .i64 0)))]), (some 42), none, 6, []⟩,
  ⟨CI.mem 1 (mBslice 2 1 (rep 1 [(.int .i64 0), (.int .i64 0)]) [(0, 2, (tg 42))]), (some 43), none, 7, []⟩,
  ⟨CI.mem 3 (mAppend 2 16 (tg 37) (tg 43)), (some 44), none, 8, []⟩,
  ⟨CI.pure (pFaddr 0 (tg 7)), (some 45), none, 9, []⟩,
  ⟨CI.mem 3 (mStore 1 (tg 45) (tg 44)), none, none, 10, []⟩]
@[simp] def o_r_All_16_ap := das_rule (c := o_r_All_16) rfl
def o_r_All_17 : List IS := [ip 46 (pFaddr 1 (tg 7)),
  il 47 (tg 46) (mLoad1 (tg 46)),
  im 1 48 (mBslice 1 1 (rep 1 [(.int .i64 0)]) [(0, 1, (cv (.int .i64 1)))]),
  im 3 49 (mAppend 1 8 (tg 47) (tg 48)),
  ip 50 (pFaddr 1 (tg 7)),
  im0 3 (mStore 1 (tg 50) (tg 49))]
@[simp] def o_r_All_17_ap := ops_rule (c := o_r_All_17) rfl
def o_r_All_18 : List IS := [ip 51 (pMov (tg 8)),
  ip 52 (pMov (tg 9)),
  ip 53 (pBin .rem (tg 51) (tg 52)),
  ip 8 (pMov (tg 53))]
@[simp] def o_r_All_18_ap := ops_rule (c := o_r_All_18) rfl
def o_r_All_19 : List DA := [⟨CI.pure (pMov (tg 11)), (some 54), none, 0, []⟩,
  ⟨CI.pure (pBin .gtr (tg 54) (cv (.int .i64 0))), (some 55), none, 1, []⟩,
  ⟨CI.pure (pMov (tg 55)), (some 56), none, 2, []⟩,
  ⟨CI.pure (pFaddr 0 (tg 7)), (some 57), (some (56, true)), 3, []⟩,
  ⟨CI.load (tg 57) (mLoad1 (tg 57)), (some 58), (some (56, true)), 4, []⟩,
  ⟨CI.pure (pMov (tg 11)), (some 59), (some (56, true)), 5, []⟩,
  ⟨CI.pure (pBin .sub (tg 59) (cv (.int .i64 1))), (some 60), (some (56, true)), 6, []⟩,
  ⟨CI.pure (pIaddrS 2 (tg 58) (tg 60)), (some 61), (some (56, true)), 7, []⟩,
  ⟨CI.pure (pFaddr 0 (tg 61)), (some 62), (some (56, true)), 8, []⟩,
  ⟨CI.load (tg 62) (mLoad1 (tg 62)), (some 63), (some (56, true)), 9, []⟩,
  ⟨CI.mem 3 (mCall 64 [(tg 63)]), (some 64), (some (56, true)), 10, []⟩,
  ⟨CI.pure (pFaddr 0 (tg 7)), (some 65), (some (56, true)), 11, []⟩,
  ⟨CI.load (tg 65) (mLoad1 (tg 65)), (some 66), (some (56, true)), 12, [10]⟩,
  ⟨CI.pure (pMov (tg 11)), (some 67), (some (56, true)), 13, []⟩,
  ⟨CI.pure (pIaddrS 2 (tg 66) (tg 67)), (some 68), (some (56, true)), 14, []⟩,
  ⟨CI.pure (pFaddr 0 (tg 68)), (some 69), (some (56, true)), 15, []⟩,
  ⟨CI.load (tg 69) (mLoad1 (tg 69)), (some 70), (some (56, true)), 16, [10]⟩,
  ⟨CI.mem 3 (mCall 45 [(tg 70)]), (some 71), (some (56, true)), 17, []⟩,
  ⟨CI.pure (pEqB true (tg 64) (tg 71)), (some 72), (some (56, true)), 18, []⟩,
  ⟨CI.pure (pPick (tg 56) (tg 72) (cv (.bool false))), (some 73), none, 19, []⟩]
@[simp] def o_r_All_19_ap := das_rule (c := o_r_All_19) rfl
def o_r_All_20 : List IS := [ip 10 (pMov (cv (.bool false)))]
@[simp] def o_r_All_20_ap := ops_rule (c := o_r_All_20) rfl
def c_r_All_13 : SC := sSeq (sReg (seqI o_r_All_20)) (sExit 4)
@[simp] def c_r_All_13_ap := seq_rule (c := c_r_All_13) rfl
def c_r_All_14 : SC := sCond (tg 73) c_r_All_13 sSkip
@[simp] def c_r_All_14_ap := cond_rule (c := c_r_All_14) rfl
def c_r_All_15 : SC := sSeq (sAny o_r_All_19) c_r_All_14
@[simp] def c_r_All_15_ap := seq_rule (c := c_r_All_15) rfl
def o_r_All_21 : List IS := [ip 74 (pMov (tg 9)),
  ip 75 (pBin .quo (tg 74) (cv (.int .i64 7))),
  ip 9 (pMov (tg 75))]
@[simp] def o_r_All_21_ap := ops_rule (c := o_r_All_21) rfl
def o_r_All_22 : List IS := [ip 76 (pMov (tg 9)),
  ip 77 (pBin .eql (tg 76) (cv (.int .i64 0)))]
@[simp] def o_r_All_22_ap := ops_rule (c := o_r_All_22) rfl
def o_r_All_23 : List IS := [ip 9 (pMov (cv (.int .i64 1)))]
@[simp] def o_r_All_23_ap := ops_rule (c := o_r_All_23) rfl
def c_r_All_16 : SC := sCond (tg 77) (sReg (seqI o_r_All_23)) sSkip
@[simp] def c_r_All_16_ap := cond_rule (c := c_r_All_16) rfl
def c_r_All_17 : SC := sSeq (sReg (seqI o_r_All_22)) c_r_All_16
@[simp] def c_r_All_17_ap := seq_rule (c := c_r_All_17) rfl
def c_r_All_18 : SC := sSeq (sReg (seqI o_r_All_21)) c_r_All_17
@[simp] def c_r_All_18_ap := seq_rule (c := c_r_All_18) rfl
def c_r_All_19 : SC := sSeq c_r_All_15 c_r_All_18
@[simp] def c_r_All_19_ap := seq_rule (c := c_r_All_19) rfl
def c_r_All_20 : SC := sSeq (sReg (seqI o_r_All_18)) c_r_All_19
@[simp] def c_r_All_20_ap := seq_rule (c := c_r_All_20) rfl
def c_r_All_21 : SC := sSeq (sReg (seqI o_r_All_17)) c_r_All_20
@[simp] def c_r_All_21_ap := seq_rule (c := c_r_All_21) rfl
def c_r_All_22 : SC := sSeq (sAny o_r_All_16) c_r_All_21
@[simp] def c_r_All_22_ap := seq_rule (c := c_r_All_22) rfl
def c_r_All_23 : SC := sBlock 5 c_r_All_22
@[simp] def c_r_All_23_ap := block_rule (c := c_r_All_23) rfl
def o_r_All_24 : List IS := [ip 34 (pMov (tg 11)),
  ip 35 (pBin .add (tg 34) (cv (.int .i64 1))),
  ip 11 (pMov (tg 35))]
@[simp] def o_r_All_24_ap := ops_rule (c := o_r_All_24) rfl
def c_r_All_24 : SC := sSeq c_r_All_23 (sReg (seqI o_r_All_24))
@[simp] def c_r_All_24_ap := seq_rule (c := c_r_All_24) rfl
def c_r_All_25 : SC := sSeq c_r_All_12 c_r_All_24
@[simp] def c_r_All_25_ap := seq_rule (c := c_r_All_25) rfl
def c_r_All_26 : SC := sLoop c_r_All_25
def c_r_All_27 : SC := sBlock 4 c_r_All_26
@[simp] def c_r_All_27_ap := block_rule (c := c_r_All_27) rfl
def c_r_All_28 : SC := sSeq (sReg (seqI o_r_All_14)) c_r_All_27
@[simp] def c_r_All_28_ap := seq_rule (c := c_r_All_28) rfl
def o_r_All_25 : List IS := [ip 78 (pMov (tg 10)),
  ip 79 (pUn .not (tg 78))]
@[simp] def o_r_All_25_ap := ops_rule (c := o_r_All_25) rfl
def c_r_All_29 : SC := sCond (tg 79) (sExit 3) sSkip
@[simp] def c_r_All_29_ap := cond_rule (c := c_r_All_29) rfl
def c_r_All_30 : SC := sSeq (sReg (seqI o_r_All_25)) c_r_All_29
@[simp] def c_r_All_30_ap := seq_rule (c := c_r_All_30) rfl
def o_r_All_26 : List IS := [il 81 (tg 7) (mLoadN 2 (tg 7)),
  im 3 82 (mCall 14 [(tg 81)]),
  ip 80 (pMov (tg 82)),
  ip 83 (pExtract (tg 80) 0),
  ip 84 (pExtract (tg 80) 1),
  ip 12 (pMov (tg 83)),
  ip 13 (pMov (tg 84))]
@[simp] def o_r_All_26_ap := ops_rule (c := o_r_All_26) rfl
def o_r_All_27 : List IS := [ip 85 (pMov (tg 13)),
  ip 86 (pBin .neq (tg 85) (cv (.int .i64 0)))]
@[simp] def o_r_All_27_ap := ops_rule (c := o_r_All_27) rfl
def c_r_All_31 : SC := sCond (tg 86) (sExit 3) sSkip
@[simp] def c_r_All_31_ap := cond_rule (c := c_r_All_31) rfl
def c_r_All_32 : SC := sSeq (sReg (seqI o_r_All_27)) c_r_All_31
@[simp] def c_r_All_32_ap := seq_rule (c := c_r_All_32) rfl
def o_r_All_28 : List IS := [ip 14 (pMov (cv (.bool true)))]
@[simp] def o_r_All_28_ap := ops_rule (c := o_r_All_28) rfl
def o_r_All_29 : List IS := [ip 15 (pMov (cv (.int .i64 1)))]
@[simp] def o_r_All_29_ap := ops_rule (c := o_r_All_29) rfl
def o_r_All_30 : List IS := [ip 87 (pMov (tg 15)),
  ip 88 (pMov (tg 0)),
  ip 89 (pBin .lss (tg 87) (tg 88))]
@[simp] def o_r_All_30_ap := ops_rule (c := o_r_All_30) rfl
def c_r_All_33 : SC := sCond (tg 89) sSkip (sExit 6)
@[simp] def c_r_All_33_ap := cond_rule (c := c_r_All_33) rfl
def c_r_All_34 : SC := sSeq (sReg (seqI o_r_All_30)) c_r_All_33
@[simp] def c_r_All_34_ap := seq_rule (c := c_r_All_34) rfl
def o_r_All_31 : List DA := [⟨CI.load (tg 7) (mLoadN 2 (tg 7)), (some 92), none, 0, []⟩,
  ⟨CI.pure (pMov (tg 15)), (some 93), none, 1, []⟩,
  ⟨CI.mem 3 (mCall 60 [(tg 92), (tg 93)]), (some 94), none, 2, []⟩,
  ⟨CI.load (tg 7) (mLoadN 2 (tg 7)), (some 95), none, 3, [2]⟩,
  ⟨CI.mem 3 (mCall 61 [(tg 94), (tg 95)]), (some 96), none, 4, []⟩]
@[simp] def o_r_All_31_ap := das_rule (c := o_r_All_31) rfl
def o_r_All_32 : List IS := [ip 14 (pMov (cv (.bool false)))]
@[simp] def o_r_All_32_ap := ops_rule (c := o_r_All_32) rfl
def c_r_All_35 : SC := sCond (tg 96) (sReg (seqI o_r_All_32)) sSkip
@[simp] def c_r_All_35_ap := cond_rule (c := c_r_All_35) rfl
def c_r_All_36 : SC := sSeq (sAny o_r_All_31) c_r_All_35
@[simp] def c_r_All_36_ap := seq_rule (c := c_r_All_36) rfl
def c_r_All_37 : SC := sBlock 7 c_r_All_36
@[simp] def c_r_All_37_ap := block_rule (c := c_r_All_37) rfl
def o_r_All_33 : List IS := [ip 90 (pMov (tg 15)),
  ip 91 (pBin .add (tg 90) (cv (.int .i64 1))),
  ip 15 (pMov (tg 91))]
@[simp] def o_r_All_33_ap := ops_rule (c := o_r_All_33) rfl
def c_r_All_38 : SC := sSeq c_r_All_37 (sReg (seqI o_r_All_33))
@[simp] def c_r_All_38_ap := seq_rule (c := c_r_All_38) rfl
def c_r_All_39 : SC := sSeq c_r_All_34 c_r_All_38
@[simp] def c_r_All_39_ap := seq_rule (c := c_r_All_39) rfl
def c_r_All_40 : SC := sLoop c_r_All_39
def c_r_All_41 : SC := sBlock 6 c_r_All_40
@[simp] def c_r_All_41_ap := block_rule (c := c_r_All_41) rfl
def c_r_All_42 : SC := sSeq (sReg (seqI o_r_All_29)) c_r_All_41
@[simp] def c_r_All_42_ap := seq_rule (c := c_r_All_42) rfl
def o_r_All_34 : List IS := [ip 97 (pMov (tg 14))]
@[simp] def o_r_All_34_ap := ops_rule (c := o_r_All_34) rfl
def o_r_All_35 : List IS := [ip 98 (pMov (tg 3)),
  il 99 (tg 7) (mLoadN 2 (tg 7)),
  im 1 100 (mBslice 2 1 (rep 1 [(.slice none 0 0), (.slice none 0 0)]) [(0, 2, (tg 99))]),
  im 3 101 (mAppend 2 48 (tg 98) (tg 100)),
  ip 3 (pMov (tg 101))]
@[simp] def o_r_All_35_ap := ops_rule (c := o_r_All_35) rfl
def c_r_All_43 : SC := sCond (tg 97) (sReg (seqI o_r_All_35)) sSkip
@[simp] def c_r_All_43_ap := cond_rule (c := c_r_All_43) rfl
def c_r_All_44 : SC := sSeq (sReg (seqI o_r_All_34)) c_r_All_43
@[simp] def c_r_All_44_ap := seq_rule (c := c_r_All_44) rfl
def c_r_All_45 : SC := sSeq c_r_All_42 c_r_All_44
@[simp] def c_r_All_45_ap := seq_rule (c := c_r_All_45) rfl
def c_r_All_46 : SC := sSeq (sReg (seqI o_r_All_28)) c_r_All_45
@[simp] def c_r_All_46_ap := seq_rule (c := c_r_All_46) rfl
def c_r_All_47 : SC := sSeq c_r_All_32 c_r_All_46
@[simp] def c_r_All_47_ap := seq_rule (c := c_r_All_47) rfl
def c_r_All_48 : SC := sSeq (sReg (seqI o_r_All_26)) c_r_All_47
@[simp] def c_r_All_48_ap := seq_rule (c := c_r_All_48) rfl
def c_r_All_49 : SC := sSeq c_r_All_30 c_r_All_48
@[simp] def c_r_All_49_ap := seq_rule (c := c_r_All_49) rfl
def c_r_All_50 : SC := sSeq c_r_All_28 c_r_All_49
@[simp] def c_r_All_50_ap := seq_rule (c := c_r_All_50) rfl
def c_r_All_51 : SC := sSeq (sReg (seqI o_r_All_13)) c_r_All_50
@[simp] def c_r_All_51_ap := seq_rule (c := c_r_All_51) rfl
def c_r_All_52 : SC := sSeq (sReg (seqI o_r_All_12)) c_r_All_51
@[simp] def c_r_All_52_ap := seq_rule (c := c_r_All_52) rfl
def c_r_All_53 : SC := sSeq (sReg (seqI o_r_All_11)) c_r_All_52
@[simp] def c_r_All_53_ap := seq_rule (c := c_r_All_53) rfl
def c_r_All_54 : SC := sSeq (sReg (seqI o_r_All_10)) c_r_All_53
@[simp] def c_r_All_54_ap := seq_rule (c := c_r_All_54) rfl
def c_r_All_55 : SC := sBlock 3 c_r_All_54
@[simp] def c_r_All_55_ap := block_rule (c := c_r_All_55) rfl
def o_r_All_36 : List IS := [ip 26 (pMov (tg 6)),
  ip 27 (pBin .add (tg 26) (cv (.int .i64 1))),
  ip 6 (pMov (tg 27))]
@[simp] def o_r_All_36_ap := ops_rule (c := o_r_All_36) rfl
def c_r_All_56 : SC := sSeq c_r_All_55 (sReg (seqI o_r_All_36))
@[simp] def c_r_All_56_ap := seq_rule (c := c_r_All_56) rfl
def c_r_All_57 : SC := sSeq c_r_All_10 c_r_All_56
@[simp] def c_r_All_57_ap := seq_rule (c := c_r_All_57) rfl
def c_r_All_58 : SC := sLoop c_r_All_57
def c_r_All_59 : SC := sBlock 2 c_r_All_58
@[simp] def c_r_All_59_ap := block_rule (c := c_r_All_59) rfl
def c_r_All_60 : SC := sSeq (sReg (seqI o_r_All_8)) c_r_All_59
@[simp] def c_r_All_60_ap := seq_rule (c := c_r_All_60) rfl
def o_r_All_37 : List IS := [ip 102 (pMov (tg 3)),
  ip 2 (pMov (tg 102))]
@[simp] def o_r_All_37_ap := ops_rule (c := o_r_All_37) rfl
def c_r_All_61 : SC := sSeq (sReg (seqI o_r_All_37)) sRet
@[simp] def c_r_All_61_ap := seq_rule (c := c_r_All_61) rfl
def c_r_All_62 : SC := sSeq c_r_All_60 c_r_All_61
@[simp] def c_r_All_62_ap := seq_rule (c := c_r_All_62) rfl
def c_r_All_63 : SC := sSeq c_r_All_8 c_r_All_62
@[simp] def c_r_All_63_ap := seq_rule (c := c_r_All_63) rfl
def c_r_All_64 : SC := sSeq (sReg (seqI o_r_All_3)) c_r_All_63
@[simp] def c_r_All_64_ap := seq_rule (c := c_r_All_64) rfl
def c_r_All_65 : SC := sSeq (sReg (seqI o_r_All_2)) c_r_All_64
@[simp] def c_r_All_65_ap := seq_rule (c := c_r_All_65) rfl
def c_r_All_66 : SC := sSeq (sReg (seqI o_r_All_1)) c_r_All_65
@[simp] def c_r_All_66_ap := seq_rule (c := c_r_All_66) rfl
def d_r_All : DFn := ⟨c_r_All_66, 103, [.t 2]⟩
theorem d_r_All_ok : fnOf Try.prog 33 = some d_r_All := by kernel_rfl
def o_w_lay_1 : List IS := [im 1 1 (mBox (tg 0)),
  im 1 2 (mAlloc [(.pointer none)]),
  im 1 3 (mAlloc [(.int .i64 0)]),
  im 1 4 (mAlloc [(.int .i64 0)])]
@[simp] def o_w_lay_1_ap := ops_rule (c := o_w_lay_1) rfl
def o_w_lay_2 : List IS := [il 15 (tg 1) (mLoadN 2 (tg 1)),
  im 3 16 (mCall 67 [(tg 15)]),
  ip 14 (pMov (tg 16)),
  ip 17 (pExtract (tg 14) 0),
  ip 18 (pExtract (tg 14) 1),
  ip 5 (pMov (tg 17)),
  ip 6 (pMov (tg 18))]
@[simp] def o_w_lay_2_ap := ops_rule (c := o_w_lay_2) rfl
def o_w_lay_3 : List IS := [ip 19 (pMov (tg 6)),
  ip 20 (pBin .neq (tg 19) (cv (.int .i64 0)))]
@[simp] def o_w_lay_3_ap := ops_rule (c := o_w_lay_3) rfl
def o_w_lay_4 : List IS := [ip 21 (pMov (tg 5)),
  ip 22 (pMov (tg 6)),
  im0 3 (mStore 1 (tg 2) (cv (.pointer none))),
  im0 3 (mStore 1 (tg 3) (tg 21)),
  im0 3 (mStore 1 (tg 4) (tg 22))]
@[simp] def o_w_lay_4_ap := ops_rule (c := o_w_lay_4) rfl
def c_w_lay_1 : SC := sSeq (sReg (seqI o_w_lay_4)) sRet
@[simp] def c_w_lay_1_ap := seq_rule (c := c_w_lay_1) rfl
def c_w_lay_2 : SC := sCond (tg 20) c_w_lay_1 sSkip
@[simp] def c_w_lay_2_ap := cond_rule (c := c_w_lay_2) rfl
def c_w_lay_3 : SC := sSeq (sReg (seqI o_w_lay_3)) c_w_lay_2
@[simp] def c_w_lay_3_ap := seq_rule (c := c_w_lay_3) rfl
def c_w_lay_4 : SC := sSeq (sReg (seqI o_w_lay_2)) c_w_lay_3
@[simp] def c_w_lay_4_ap := seq_rule (c := c_w_lay_4) rfl
def o_w_lay_5 : List IS := [ip 23 (pFaddr 0 (tg 1)),
  il 24 (tg 23) (mLoad1 (tg 23)),
  ip 25 (pLen (tg 24)),
  ip 7 (pMov (tg 25))]
@[simp] def o_w_lay_5_ap := ops_rule (c := o_w_lay_5) rfl
def o_w_lay_6 : List DA := [⟨CI.pure (pFaddr 0 (tg 1)), (some 26), none, 0, []⟩,
  ⟨CI.load (tg 26) (mLoad1 (tg 26)), (some 27), none, 1, []⟩,
  ⟨CI.mem 3 (mCall 56 [(tg 27)]), (some 28), none, 2, []⟩,
  ⟨CI.pure (pFaddr 1 (tg 1)), (some 29), none, 3, []⟩,
  ⟨CI.load (tg 29) (mLoad1 (tg 29)), (some 30), none, 4, [2]⟩,
  ⟨CI.mem 3 (mCall 57 [(tg 30)]), (some 31), none, 5, []⟩,
  ⟨CI.pure (pBuild [(.slice none 0 0), (.slice none 0 0)] [(0, 1, (tg 28)), (1, 1, (tg 31))]), (some 32), none, 6, []⟩,
  ⟨CI.pure (pMov (tg 7)), (some 33), none, 7, []⟩,
  ⟨CI.mem 1 (mMkslice 1 8 [(.int .i64 0)] (tg 33) (tg 33)), (some 34), none, 8, []⟩,
  ⟨CI.pure (pMov (tg 7)), (some 35), none, 9, []⟩,
  ⟨CI.mem 1 (mMkslice 1 8 [(.int .i64 0)] (tg 35) (tg 35)), (some 36), none, 10, []⟩,
  ⟨CI.pure (pMov (tg 7)), (some 37), none, 11, []⟩,
  ⟨CI.mem 1 (mMkslice 1 8 [(.int .i64 0)] (tg 37) (tg 37)), (some 38), none, 12, []⟩,
  ⟨CI.pure (pBuild [(.slice none 0 0), (.slice none 0 0), (.int .i64 0), (.int .i64 0), (.int .i64 0), (.slice none 0 0), (.slice none 0 0), (.slice none 0 0), (.slice none 0 0)] [(0, 2, (tg 32)), (5, 1, (tg 34)), (6, 1, (tg 36)), (7, 1, (tg 38))]), (some 39), none, 13, []⟩,
  ⟨CI.mem 1 (mBox (tg 39)), (some 40), none, 14, []⟩,
  ⟨CI.mem 1 (mAlloc [(.pointer none)]), (some 8), none, 15, []⟩,
  ⟨CI.mem 3 (mStore 1 (tg 8) (tg 40)), none, none, 16, []⟩]
@[simp] def o_w_lay_6_ap := das_rule (c := o_w_lay_6) rfl
def o_w_lay_7 : List IS := [ip 41 (pFaddr 0 (tg 1)),
  il 42 (tg 41) (mLoad1 (tg 41)),
  ip 43 (pLen (tg 42)),
  ip 44 (pMov (cv (.int .i64 0)))]
@[simp] def o_w_lay_7_ap := ops_rule (c := o_w_lay_7) rfl
def o_w_lay_8 : List IS := [ip 45 (pBin .lss (tg 44) (tg 43))]
@[simp] def o_w_lay_8_ap := ops_rule (c := o_w_lay_8) rfl
def c_w_lay_5 : SC := sCond (tg 45) sSkip (sExit 0)
@[simp] def c_w_lay_5_ap := cond_rule (c := c_w_lay_5) rfl
def o_w_lay_9 : List IS := [ip 46 (pIaddrS 2 (tg 42) (tg 44)),
  il 47 (tg 46) (mLoadN 2 (tg 46)),
  im 1 10 (mAlloc [(.int .i64 0), (.int .i64 0)]),
  im0 3 (mStore 2 (tg 10) (tg 47))]
@[simp] def o_w_lay_9_ap := ops_rule (c := o_w_lay_9) rfl
def o_w_lay_10 : List IS := [il 48 (tg 10) (mLoadN 2 (tg 10)),
  im 3 49 (mCall 68 [(tg 48)])]
@[simp] def o_w_lay_10_ap := ops_rule (c := o_w_lay_10) rfl
def o_w_lay_11 : List IS := [il 50 (tg 8) (mLoad1 (tg 8)),
  ip 51 (pNilck (tg 50)),
  ip 52 (pFaddr 3 (tg 51)),
  il 53 (tg 52) (mLoad1 (tg 52)),
  ip 54 (pBin .add (tg 53) (cv (.int .i64 1))),
  ip 55 (pNilck (tg 50)),
  ip 56 (pFaddr 3 (tg 55)),
  im0 3 (mStore 1 (tg 56) (tg 54))]
@[simp] def o_w_lay_11_ap := ops_rule (c := o_w_lay_11) rfl
def o_w_lay_12 : List IS := [il 57 (tg 8) (mLoad1 (tg 8)),
  ip 58 (pNilck (tg 57)),
  ip 59 (pFaddr 4 (tg 58)),
  il 60 (tg 59) (mLoad1 (tg 59)),
  ip 61 (pBin .add (tg 60) (cv (.int .i64 1))),
  ip 62 (pNilck (tg 57)),
  ip 63 (pFaddr 4 (tg 62)),
  im0 3 (mStore 1 (tg 63) (tg 61))]
@[simp] def o_w_lay_12_ap := ops_rule (c := o_w_lay_12) rfl
def c_w_lay_6 : SC := sCond (tg 49) (sReg (seqI o_w_lay_11)) (sReg (seqI o_w_lay_12))
@[simp] def c_w_lay_6_ap := cond_rule (c := c_w_lay_6) rfl
def c_w_lay_7 : SC := sSeq (sReg (seqI o_w_lay_10)) c_w_lay_6
@[simp] def c_w_lay_7_ap := seq_rule (c := c_w_lay_7) rfl
def c_w_lay_8 : SC := sSeq (sReg (seqI o_w_lay_9)) c_w_lay_7
@[simp] def c_w_lay_8_ap := seq_rule (c := c_w_lay_8) rfl
def c_w_lay_9 : SC := sBlock 1 c_w_lay_8
@[simp] def c_w_lay_9_ap := block_rule (c := c_w_lay_9) rfl
def o_w_lay_13 : List IS := [ip 64 (pBin .add (tg 44) (cv (.int .i64 1))),
  ip 44 (pMov (tg 64))]
@[simp] def o_w_lay_13_ap := ops_rule (c := o_w_lay_13) rfl
def c_w_lay_10 : SC := sSeq c_w_lay_9 (sReg (seqI o_w_lay_13))
@[simp] def c_w_lay_10_ap := seq_rule (c := c_w_lay_10) rfl
def c_w_lay_11 : SC := sSeq c_w_lay_5 c_w_lay_10
@[simp] def c_w_lay_11_ap := seq_rule (c := c_w_lay_11) rfl
def c_w_lay_12 : SC := sSeq (sReg (seqI o_w_lay_8)) c_w_lay_11
@[simp] def c_w_lay_12_ap := seq_rule (c := c_w_lay_12) rfl
def c_w_lay_13 : SC := sLoop c_w_lay_12
def c_w_lay_14 : SC := sBlock 0 c_w_lay_13
@[simp] def c_w_lay_14_ap := block_rule (c := c_w_lay_14) rfl
def c_w_lay_15 : SC := sSeq (sReg (seqI o_w_lay_7)) c_w_lay_14
@[simp] def c_w_lay_15_ap := seq_rule (c := c_w_lay_15) rfl
def o_w_lay_14 : List IS := [il 65 (tg 8) (mLoad1 (tg 8)),
  ip 66 (pNilck (tg 65)),
  ip 67 (pFaddr 3 (tg 66)),
  il 68 (tg 67) (mLoad1 (tg 67)),
  ip 69 (pBin .lss (tg 68) (cv (.int .i64 2))),
  ip 70 (pMov (tg 69)),
  gd 70 false (some 71) (il 71 (tg 8) (mLoad1 (tg 8))),
  gd 70 false (some 72) (ip 72 (pNilck (tg 71))),
  gd 70 false (some 73) (ip 73 (pFaddr 4 (tg 72))),
  gd 70 false (some 74) (il 74 (tg 73) (mLoad1 (tg 73))),
  gd 70 false (some 75) (ip 75 (pBin .lss (tg 74) (cv (.int .i64 1)))),
  ip 76 (pPick (tg 70) (cv (.bool true)) (tg 75))]
@[simp] def o_w_lay_14_ap := ops_rule (c := o_w_lay_14) rfl
def o_w_lay_15 : List IS := [im0 3 (mStore 1 (tg 2) (cv (.pointer none))),
  im0 3 (mStore 1 (tg 3) (cv (.int .i64 0))),
  im0 3 (mStore 1 (tg 4) (cv (.int .i64 4)))]
@[simp] def o_w_lay_15_ap := ops_rule (c := o_w_lay_15) rfl
def c_w_lay_16 : SC := sSeq (sReg (seqI o_w_lay_15)) sRet
@[simp] def c_w_lay_16_ap := seq_rule (c := c_w_lay_16) rfl
def c_w_lay_17 : SC := sCond (tg 76) c_w_lay_16 sSkip
@[simp] def c_w_lay_17_ap := cond_rule (c := c_w_lay_17) rfl
def c_w_lay_18 : SC := sSeq (sReg (seqI o_w_lay_14)) c_w_lay_17
@[simp] def c_w_lay_18_ap := seq_rule (c := c_w_lay_18) rfl
def o_w_lay_16 : List DA := [⟨CI.pure (pFaddr 0 (tg 1)), (some 77), none, 0, []⟩,
  ⟨CI.load (tg 77) (mLoad1 (tg 77)), (some 78), none, 1, []⟩,
  ⟨CI.load (tg 8) (mLoad1 (tg 8)), (some 79), none, 2, []⟩,
  ⟨CI.load (tg 8) (mLoad1 (tg 8)), (some 80), none, 3, []⟩,
  ⟨CI.pure (pNilck (tg 80)), (some 81), none, 4, []⟩,
  ⟨CI.pure (pFaddr 2 (tg 81)), (some 82), none, 5, []⟩,
  ⟨CI.load (tg 82) (mLoad1 (tg 82)), (some 83), none, 6, []⟩,
  ⟨CI.mem 3 (mCall 69 [(tg 79), (tg 83)]), (some 84), none, 7, [1]⟩,
  ⟨CI.pure (pIaddrS 2 (tg 78) (tg 84)), (some 85), none, 8, []⟩,
  ⟨CI.load (tg 85) (mLoadN 2 (tg 85)), (some 86), none, 9, []⟩,
  ⟨CI.mem 3 (mCall 68 [(tg 86)]), (some 87), none, 10, []⟩,
  ⟨CI.pure (pUn .not (tg 87)), (some 88), none, 11, []⟩]
@[simp] def o_w_lay_16_ap := das_rule (c := o_w_lay_16) rfl
def c_w_lay_19 : SC := sCond (tg 88) sSkip (sExit 2)
@[simp] def c_w_lay_19_ap := cond_rule (c := c_w_lay_19) rfl
def c_w_lay_20 : SC := sSeq (sAny o_w_lay_16) c_w_lay_19
@[simp] def c_w_lay_20_ap := seq_rule (c := c_w_lay_20) rfl
def o_w_lay_17 : List IS := [il 89 (tg 8) (mLoad1 (tg 8)),
  ip 90 (pNilck (tg 89)),
  ip 91 (pFaddr 2 (tg 90)),
  il 92 (tg 91) (mLoad1 (tg 91)),
  ip 93 (pBin .add (tg 92) (cv (.int .i64 1))),
  ip 94 (pNilck (tg 89)),
  ip 95 (pFaddr 2 (tg 94)),
  im0 3 (mStore 1 (tg 95) (tg 93))]
@[simp] def o_w_lay_17_ap := ops_rule (c := o_w_lay_17) rfl
def c_w_lay_21 : SC := sBlock 3 (sReg (seqI o_w_lay_17))
@[simp] def c_w_lay_21_ap := block_rule (c := c_w_lay_21) rfl
def c_w_lay_22 : SC := sSeq c_w_lay_20 c_w_lay_21
@[simp] def c_w_lay_22_ap := seq_rule (c := c_w_lay_22) rfl
def c_w_lay_23 : SC := sLoop c_w_lay_22
def c_w_lay_24 : SC := sBlock 2 c_w_lay_23
@[simp] def c_w_lay_24_ap := block_rule (c := c_w_lay_24) rfl
def o_w_lay_18 : List DA := [⟨CI.load (tg 8) (mLoad1 (tg 8)), (some 96), none, 0, []⟩,
  ⟨CI.load (tg 8) (mLoad1 (tg 8)), (some 97), none, 1, []⟩,
  ⟨CI.pure (pNilck (tg 97)), (some 98), none, 2, []⟩,
  ⟨CI.pure (pFaddr 4 (tg 98)), (some 99), none, 3, []⟩,
  ⟨CI.load (tg 99) (mLoad1 (tg 99)), (some 100), none, 4, []⟩,
  ⟨CI.mem 1 (mMkslice 1 8 [(.int .i64 0)] (tg 100) (tg 100)), (some 101), none, 5, []⟩,
  ⟨CI.pure (pNilck (tg 96)), (some 102), none, 6, []⟩,
  ⟨CI.pure (pFaddr 8 (tg 102)), (some 103), none, 7, []⟩,
  ⟨CI.mem 3 (mStore 1 (tg 103) (tg 101)), none, none, 8, []⟩]
@[simp] def o_w_lay_18_ap := das_rule (c := o_w_lay_18) rfl
def o_w_lay_19 : List IS := [im 1 11 (mAlloc [(.int .i64 0)]),
  im 1 12 (mAlloc [(.int .i64 0)]),
  im0 3 (mStore 1 (tg 11) (cv (.int .i64 0))),
  im0 3 (mStore 1 (tg 12) (cv (.int .i64 0)))]
@[simp] def o_w_lay_19_ap := ops_rule (c := o_w_lay_19) rfl
def o_w_lay_20 : List IS := [il 104 (tg 8) (mLoad1 (tg 8)),
  im 3 105 (mCall 39 [(tg 104)])]
@[simp] def o_w_lay_20_ap := ops_rule (c := o_w_lay_20) rfl
def o_w_lay_21 : List IS := [ip 13 (pMov (tg 106))]
@[simp] def o_w_lay_21_ap := ops_rule (c := o_w_lay_21) rfl
def o_w_lay_22 : List DA := [⟨CI.load (tg 8) (mLoad1 (tg 8)), (some 107), none, 0, []⟩,
  ⟨CI.pure (pNilck (tg 107)), (some 108), none, 1, []⟩,
  ⟨CI.pure (pFaddr 5 (tg 108)), (some 109), none, 2, []⟩,
  ⟨CI.load (tg 109) (mLoad1 (tg 109)), (some 110), none, 3, []⟩,
  ⟨CI.pure (pMov (tg 13)), (some 111), none, 4, []⟩,
  ⟨CI.load (tg 8) (mLoad1 (tg 8)), (some 112), none, 5, []⟩,
  ⟨CI.pure (pNilck (tg 112)), (some 113), none, 6, []⟩,
  ⟨CI.pure (pFaddr 6 (tg 113)), (some 114), none, 7, []⟩,
  ⟨CI.load (tg 114) (mLoad1 (tg 114)), (some 115), none, 8, []⟩,
  ⟨CI.pure (pMov (tg 13)), (some 116), none, 9, []⟩,
  ⟨CI.load (tg 11) (mLoad1 (tg 11)), (some 117), none, 10, []⟩,
  ⟨CI.load (tg 12) (mLoad1 (tg 12)), (some 118), none, 11, []⟩,
  ⟨CI.load (tg 8) (mLoad1 (tg 8)), (some 119), none, 12, []⟩,
  ⟨CI.pure (pNilck (tg 119)), (some 120), none, 13, []⟩,
  ⟨CI.pure (pFaddr 4 (tg 120)), (some 121), none, 14, []⟩,
  ⟨CI.load (tg 121) (mLoad1 (tg 121)), (some 122), none, 15, []⟩,
  ⟨CI.pure (pBin .rem (tg 118) (tg 122)), (some 123), none, 16, []⟩,
  ⟨CI.pure (pIaddrS 1 (tg 110) (tg 111)), (some 124), none, 17, []⟩,
  ⟨CI.mem 3 (mStore 1 (tg 124) (tg 117)), none, none, 18, [11]⟩,
  ⟨CI.pure (pIaddrS 1 (tg 115) (tg 116)), (some 125), none, 19, []⟩,
  ⟨CI.mem 3 (mStore 1 (tg 125) (tg 123)), none, none, 20, []⟩]
@[simp] def o_w_lay_22_ap := das_rule (c := o_w_lay_22) rfl
def o_w_lay_23 : List IS := [il 126 (tg 8) (mLoad1 (tg 8)),
  ip 127 (pMov (tg 13)),
  im 3 128 (mCall 41 [(tg 126), (tg 127)]),
  ip 129 (pBin .eql (tg 128) (cv (.int .i64 2)))]
@[simp] def o_w_lay_23_ap := ops_rule (c := o_w_lay_23) rfl
def o_w_lay_24 : List DA := [⟨CI.load (tg 8) (mLoad1 (tg 8)), (some 130), none, 0, []⟩,
  ⟨CI.pure (pNilck (tg 130)), (some 131), none, 1, []⟩,
  ⟨CI.pure (pFaddr 8 (tg 131)), (some 132), none, 2, []⟩,
  ⟨CI.load (tg 132) (mLoad1 (tg 132)), (some 133), none, 3, []⟩,
  ⟨CI.load (tg 8) (mLoad1 (tg 8)), (some 134), none, 4, []⟩,
  ⟨CI.pure (pNilck (tg 134)), (some 135), none, 5, []⟩,
  ⟨CI.pure (pFaddr 6 (tg 135)), (some 136), none, 6, []⟩,
  ⟨CI.load (tg 136) (mLoad1 (tg 136)), (some 137), none, 7, []⟩,
  ⟨CI.pure (pMov (tg 13)), (some 138), none, 8, []⟩,
  ⟨CI.pure (pIaddrS 1 (tg 137) (tg 138)), (some 139), none, 9, []⟩,
  ⟨CI.load (tg 139) (mLoad1 (tg 139)), (some 140), none, 10, []⟩,
  ⟨CI.pure (pIaddrS 1 (tg 133) (tg 140)), (some 141), none, 11, []⟩,
  ⟨CI.load (tg 141) (mLoad1 (tg 141)), (some 142), none, 12, []⟩,
  ⟨CI.pure (pBin .add (tg 142) (cv (.int .i64 1))), (some 143), none, 13, []⟩,
  ⟨CI.pure (pIaddrS 1 (tg 133) (tg 140)), (some 144), none, 14, []⟩,
  ⟨CI.mem 3 (mStore 1 (tg 144) (tg 143)), none, none, 15, []⟩]
@[simp] def o_w_lay_24_ap := das_rule (c := o_w_lay_24) rfl
def o_w_lay_25 : List DA := [⟨CI.load (tg 8) (mLoad1 (tg 8)), (some 145), none, 0, []⟩,
  ⟨CI.pure (pNilck (tg 145)), (some 146), none, 1, []⟩,
  ⟨CI.pure (pFaddr 8 (tg 146)), (some 147), none, 2, []⟩,
  ⟨CI.load (tg 147) (mLoad1 (tg 147)), (some 148), none, 3, []⟩,
  ⟨CI.load (tg 8) (mLoad1 (tg 8)), (some 149), none, 4, []⟩,
  ⟨CI.pure (pNilck (tg 149)), (some 150), none, 5, []⟩,
  ⟨CI.pure (pFaddr 6 (tg 150)), (some 151), none, 6, []⟩,
  ⟨CI.load (tg 151) (mLoad1 (tg 151)), (some 152), none, 7, []⟩,
  ⟨CI.pure (pMov (tg 13)), (some 153), none, 8, []⟩,
  ⟨CI.pure (pIaddrS 1 (tg 152) (tg 153)), (some 154), none, 9, []⟩,
  ⟨CI.load (tg 154) (mLoad1 (tg 154)), (some 155), none, 10, []⟩,
  ⟨CI.pure (pIaddrS 1 (tg 148) (tg 155)), (some 156), none, 11, []⟩,
  ⟨CI.load (tg 156) (mLoad1 (tg 156)), (some 157), none, 12, []⟩,
  ⟨CI.pure (pBin .gtr (tg 157) (cv (.int .i64 2))), (some 158), none, 13, []⟩]
@[simp] def o_w_lay_25_ap := das_rule (c := o_w_lay_25) rfl
def o_w_lay_26 : List IS := [ip 159 (pMov (tg 13)),
  im0 3 (mStore 1 (tg 2) (cv (.pointer none))),
  im0 3 (mStore 1 (tg 3) (tg 159)),
  im0 3 (mStore 1 (tg 4) (cv (.int .i64 2)))]
@[simp] def o_w_lay_26_ap := ops_rule (c := o_w_lay_26) rfl
def c_w_lay_25 : SC := sSeq (sReg (seqI o_w_lay_26)) sRet
@[simp] def c_w_lay_25_ap := seq_rule (c := c_w_lay_25) rfl
def c_w_lay_26 : SC := sCond (tg 158) c_w_lay_25 sSkip
@[simp] def c_w_lay_26_ap := cond_rule (c := c_w_lay_26) rfl
def c_w_lay_27 : SC := sSeq (sAny o_w_lay_25) c_w_lay_26
@[simp] def c_w_lay_27_ap := seq_rule (c := c_w_lay_27) rfl
def c_w_lay_28 : SC := sSeq (sAny o_w_lay_24) c_w_lay_27
@[simp] def c_w_lay_28_ap := seq_rule (c := c_w_lay_28) rfl
def c_w_lay_29 : SC := sCond (tg 129) c_w_lay_28 sSkip
@[simp] def c_w_lay_29_ap := cond_rule (c := c_w_lay_29) rfl
def c_w_lay_30 : SC := sSeq (sReg (seqI o_w_lay_23)) c_w_lay_29
@[simp] def c_w_lay_30_ap := seq_rule (c := c_w_lay_30) rfl
def o_w_lay_27 : List IS := [ip 160 (pFaddr 0 (tg 1)),
  il 161 (tg 160) (mLoad1 (tg 160)),
  ip 162 (pMov (tg 13)),
  ip 163 (pIaddrS 2 (tg 161) (tg 162)),
  il 164 (tg 163) (mLoadN 2 (tg 163)),
  im 3 165 (mCall 68 [(tg 164)])]
@[simp] def o_w_lay_27_ap := ops_rule (c := o_w_lay_27) rfl
def o_w_lay_28 : List IS := [il 166 (tg 11) (mLoad1 (tg 11)),
  ip 167 (pBin .add (tg 166) (cv (.int .i64 1))),
  im0 3 (mStore 1 (tg 11) (tg 167))]
@[simp] def o_w_lay_28_ap := ops_rule (c := o_w_lay_28) rfl
def o_w_lay_29 : List IS := [il 168 (tg 12) (mLoad1 (tg 12)),
  ip 169 (pBin .add (tg 168) (cv (.int .i64 1))),
  im0 3 (mStore 1 (tg 12) (tg 169))]
@[simp] def o_w_lay_29_ap := ops_rule (c := o_w_lay_29) rfl
def c_w_lay_31 : SC := sCond (tg 165) (sReg (seqI o_w_lay_28)) (sReg (seqI o_w_lay_29))
@[simp] def c_w_lay_31_ap := cond_rule (c := c_w_lay_31) rfl
def c_w_lay_32 : SC := sSeq (sReg (seqI o_w_lay_27)) c_w_lay_31
@[simp] def c_w_lay_32_ap := seq_rule (c := c_w_lay_32) rfl
def c_w_lay_33 : SC := sSeq c_w_lay_30 c_w_lay_32
@[simp] def c_w_lay_33_ap := seq_rule (c := c_w_lay_33) rfl
def c_w_lay_34 : SC := sSeq (sAny o_w_lay_22) c_w_lay_33
@[simp] def c_w_lay_34_ap := seq_rule (c := c_w_lay_34) rfl
def c_w_lay_35 : SC := sBlock 5 c_w_lay_34
@[simp] def c_w_lay_35_ap := block_rule (c := c_w_lay_35) rfl
def ya_weave_lay_1 : SC := (sReg (seqI o_w_lay_21))
theorem ya_weave_lay_1_ok : cCode Try.prog 173 (cL (cL (cR (cL (cR (cR (cR (cR (cR (cR (cR (cR (cR (bodyOf Try.f38)))))))))))))) = some ya_weave_lay_1 := by kernel_rfl
def yb_weave_lay_1 : SC := c_w_lay_35
theorem yb_weave_lay_1_ok : cCode Try.prog 173 (cR (cL (cR (cL (cR (cR (cR (cR (cR (cR (cR (cR (cR (bodyOf Try.f38)))))))))))))) = some yb_weave_lay_1 := by kernel_rfl
def c_w_lay_36 : SC := sRf (tg 105) 173 #[106] (cL (cL (cR (cL (cR (cR (cR (cR (cR (cR (cR (cR (cR (bodyOf Try.f38)))))))))))))) (cR (cL (cR (cL (cR (cR (cR (cR (cR (cR (cR (cR (cR (bodyOf Try.f38)))))))))))))) [12, 11, 8, 4, 3, 2, 1]
def c_w_lay_37 : SC := sBlock 4 c_w_lay_36
@[simp] def c_w_lay_37_ap := block_rule (c := c_w_lay_37) rfl
def c_w_lay_38 : SC := sSeq (sReg (seqI o_w_lay_20)) c_w_lay_37
@[simp] def c_w_lay_38_ap := seq_rule (c := c_w_lay_38) rfl
def o_w_lay_30 : List IS := [il 170 (tg 8) (mLoad1 (tg 8)),
  im 3 171 (mCall 70 [(tg 170)])]
@[simp] def o_w_lay_30_ap := ops_rule (c := o_w_lay_30) rfl
def o_w_lay_31 : List IS := [il 172 (tg 8) (mLoad1 (tg 8)),
  im0 3 (mStore 1 (tg 2) (tg 172)),
  im0 3 (mStore 1 (tg 3) (cv (.int .i64 0))),
  im0 3 (mStore 1 (tg 4) (cv (.int .i64 0)))]
@[simp] def o_w_lay_31_ap := ops_rule (c := o_w_lay_31) rfl
def c_w_lay_39 : SC := sSeq (sReg (seqI o_w_lay_31)) sRet
@[simp] def c_w_lay_39_ap := seq_rule (c := c_w_lay_39) rfl
def c_w_lay_40 : SC := sSeq (sReg (seqI o_w_lay_30)) c_w_lay_39
@[simp] def c_w_lay_40_ap := seq_rule (c := c_w_lay_40) rfl
def c_w_lay_41 : SC := sSeq c_w_lay_38 c_w_lay_40
@[simp] def c_w_lay_41_ap := seq_rule (c := c_w_lay_41) rfl
def c_w_lay_42 : SC := sSeq (sReg (seqI o_w_lay_19)) c_w_lay_41
@[simp] def c_w_lay_42_ap := seq_rule (c := c_w_lay_42) rfl
def c_w_lay_43 : SC := sSeq (sAny o_w_lay_18) c_w_lay_42
@[simp] def c_w_lay_43_ap := seq_rule (c := c_w_lay_43) rfl
def c_w_lay_44 : SC := sSeq c_w_lay_24 c_w_lay_43
@[simp] def c_w_lay_44_ap := seq_rule (c := c_w_lay_44) rfl
def c_w_lay_45 : SC := sSeq c_w_lay_18 c_w_lay_44
@[simp] def c_w_lay_45_ap := seq_rule (c := c_w_lay_45) rfl
def c_w_lay_46 : SC := sSeq c_w_lay_15 c_w_lay_45
@[simp] def c_w_lay_46_ap := seq_rule (c := c_w_lay_46) rfl
def c_w_lay_47 : SC := sSeq (sAny o_w_lay_6) c_w_lay_46
@[simp] def c_w_lay_47_ap := seq_rule (c := c_w_lay_47) rfl
def c_w_lay_48 : SC := sSeq (sReg (seqI o_w_lay_5)) c_w_lay_47
@[simp] def c_w_lay_48_ap := seq_rule (c := c_w_lay_48) rfl
def c_w_lay_49 : SC := sSeq c_w_lay_4 c_w_lay_48
@[simp] def c_w_lay_49_ap := seq_rule (c := c_w_lay_49) rfl
def c_w_lay_50 : SC := sSeq (sReg (seqI o_w_lay_1)) c_w_lay_49
@[simp] def c_w_lay_50_ap := seq_rule (c := c_w_lay_50) rfl
def d_w_lay : DFn := ⟨c_w_lay_50, 173, [.one 2, .one 3, .one 4]⟩
theorem d_w_lay_ok : fnOf Try.prog 38 = some d_w_lay := by kernel_rfl
def o_w_plan_walk_1 : List IS := [im 1 1 (mBox (tg 0)),
  ip 2 (pMov (cv .nilFunc))]
@[simp] def o_w_plan_walk_1_ap := ops_rule (c := o_w_plan_walk_1) rfl
def o_w_plan_walk_2 : List IS := [ip 3 (pMkfn 71 [] [(tg 1)]),
  ip 2 (pMov (tg 3))]
@[simp] def o_w_plan_walk_2_ap := ops_rule (c := o_w_plan_walk_2) rfl
def c_w_plan_walk_1 : SC := sSeq (sReg (seqI o_w_plan_walk_2)) sRet
@[simp] def c_w_plan_walk_1_ap := seq_rule (c := c_w_plan_walk_1) rfl
def c_w_plan_walk_2 : SC := sSeq (sReg (seqI o_w_plan_walk_1)) c_w_plan_walk_1
@[simp] def c_w_plan_walk_2_ap := seq_rule (c := c_w_plan_walk_2) rfl
def d_w_plan_walk : DFn := ⟨c_w_plan_walk_2, 4, [.t 2]⟩
theorem d_w_plan_walk_ok : fnOf Try.prog 39 = some d_w_plan_walk := by kernel_rfl
def o_w_plan_fence_1 : List IS := [ip 4 (pMov (cv (.int .i64 0)))]
@[simp] def o_w_plan_fence_1_ap := ops_rule (c := o_w_plan_fence_1) rfl
def o_w_plan_fence_2 : List DA := [⟨CI.pure (pMov (tg 0)), (some 5), none, 0, []⟩,
  ⟨CI.pure (pNilck (tg 5)), (some 6), none, 1, []⟩,
  ⟨CI.pure (pFaddr 0 (tg 6)), (some 7), none, 2, []⟩,
  ⟨CI.pure (pFaddr 0 (tg 7)), (some 8), none, 3, []⟩,
  ⟨CI.load (tg 8) (mLoad1 (tg 8)), (some 9), none, 4, []⟩,
  ⟨CI.pure (pMov (tg 0)), (some 10), none, 5, []⟩,
  ⟨CI.pure (pMov (tg 1)), (some 11), none, 6, []⟩,
  ⟨CI.mem 3 (mCall 69 [(tg 10), (tg 11)]), (some 12), none, 7, [4]⟩,
  ⟨CI.pure (pIaddrS 2 (tg 9) (tg 12)), (some 13), none, 8, []⟩,
  ⟨CI.pure (pFaddr 1 (tg 13)), (some 14), none, 9, []⟩,
  ⟨CI.load (tg 14) (mLoad1 (tg 14)), (some 15), none, 10, []⟩,
  ⟨CI.pure (pMov (tg 15)), (some 4), none, 11, []⟩]
@[simp] def o_w_plan_fence_2_ap := das_rule (c := o_w_plan_fence_2) rfl
def c_w_plan_fence_1 : SC := sSeq (sAny o_w_plan_fence_2) sRet
@[simp] def c_w_plan_fence_1_ap := seq_rule (c := c_w_plan_fence_1) rfl
def c_w_plan_fence_2 : SC := sSeq (sReg (seqI o_w_plan_fence_1)) c_w_plan_fence_1
@[simp] def c_w_plan_fence_2_ap := seq_rule (c := c_w_plan_fence_2) rfl
def d_w_plan_fence : DFn := ⟨c_w_plan_fence_2, 16, [.t 4]⟩
theorem d_w_plan_fence_ok : fnOf Try.prog 40 = some d_w_plan_fence := by kernel_rfl
def o_w_plan_kind_1 : List IS := [ip 4 (pMov (cv (.int .i64 0)))]
@[simp] def o_w_plan_kind_1_ap := ops_rule (c := o_w_plan_kind_1) rfl
def o_w_plan_kind_2 : List IS := [ip 8 (pMov (tg 0)),
  ip 9 (pNilck (tg 8)),
  ip 10 (pFaddr 0 (tg 9)),
  ip 11 (pFaddr 0 (tg 10)),
  il 12 (tg 11) (mLoad1 (tg 11)),
  ip 13 (pMov (tg 1)),
  ip 14 (pIaddrS 2 (tg 12) (tg 13)),
  il 15 (tg 14) (mLoadN 2 (tg 14)),
  im 3 16 (mCall 72 [(tg 15)]),
  ip 7 (pMov (tg 16)),
  ip 17 (pExtract (tg 7) 0),
  ip 18 (pExtract (tg 7) 1),
  ip 5 (pMov (tg 17)),
  ip 6 (pMov (tg 18))]
@[simp] def o_w_plan_kind_2_ap := ops_rule (c := o_w_plan_kind_2) rfl
def o_w_plan_kind_3 : List IS := [ip 19 (pMov (tg 5)),
  ip 4 (pMov (tg 19))]
@[simp] def o_w_plan_kind_3_ap := ops_rule (c := o_w_plan_kind_3) rfl
def c_w_plan_kind_1 : SC := sSeq (sReg (seqI o_w_plan_kind_3)) sRet
@[simp] def c_w_plan_kind_1_ap := seq_rule (c := c_w_plan_kind_1) rfl
def c_w_plan_kind_2 : SC := sSeq (sReg (seqI o_w_plan_kind_2)) c_w_plan_kind_1
@[simp] def c_w_plan_kind_2_ap := seq_rule (c := c_w_plan_kind_2) rfl
def c_w_plan_kind_3 : SC := sSeq (sReg (seqI o_w_plan_kind_1)) c_w_plan_kind_2
@[simp] def c_w_plan_kind_3_ap := seq_rule (c := c_w_plan_kind_3) rfl
def d_w_plan_kind : DFn := ⟨c_w_plan_kind_3, 20, [.t 4]⟩
theorem d_w_plan_kind_ok : fnOf Try.prog 41 = some d_w_plan_kind := by kernel_rfl
def o_r_Plain_1 : List IS := [im 1 1 (mBox (tg 0)),
  ip 2 (pMov (cv (.int .i64 0))),
  ip 3 (pMov (cv (.int .i64 0)))]
@[simp] def o_r_Plain_1_ap := ops_rule (c := o_r_Plain_1) rfl
def o_r_Plain_2 : List IS := [ip 10 (pFaddr 0 (tg 1)),
  il 11 (tg 10) (mLoad1 (tg 10)),
  ip 12 (pLen (tg 11)),
  ip 4 (pMov (tg 12))]
@[simp] def o_r_Plain_2_ap := ops_rule (c := o_r_Plain_2) rfl
def o_r_Plain_3 : List IS := [ip 13 (pMov (tg 4)),
  ip 14 (pBin .gtr (tg 13) (cv (.int .i64 16)))]
@[simp] def o_r_Plain_3_ap := ops_rule (c := o_r_Plain_3) rfl
def o_r_Plain_4 : List IS := [ip 2 (pMov (cv (.int .i64 16))),
  ip 3 (pMov (cv (.int .i64 2)))]
@[simp] def o_r_Plain_4_ap := ops_rule (c := o_r_Plain_4) rfl
def c_r_Plain_1 : SC := sSeq (sReg (seqI o_r_Plain_4)) sRet
@[simp] def c_r_Plain_1_ap := seq_rule (c := c_r_Plain_1) rfl
def c_r_Plain_2 : SC := sCond (tg 14) c_r_Plain_1 sSkip
@[simp] def c_r_Plain_2_ap := cond_rule (c := c_r_Plain_2) rfl
def c_r_Plain_3 : SC := sSeq (sReg (seqI o_r_Plain_3)) c_r_Plain_2
@[simp] def c_r_Plain_3_ap := seq_rule (c := c_r_Plain_3) rfl
def o_r_Plain_5 : List IS := [ip 15 (pFaddr 1 (tg 1)),
  il 16 (tg 15) (mLoad1 (tg 15)),
  ip 17 (pLen (tg 16)),
  ip 18 (pMov (tg 4)),
  ip 19 (pBin .neq (tg 17) (tg 18))]
@[simp] def o_r_Plain_5_ap := ops_rule (c := o_r_Plain_5) rfl
def o_r_Plain_6 : List IS := [ip 2 (pMov (cv (.int .i64 0))),
  ip 3 (pMov (cv (.int .i64 1)))]
@[simp] def o_r_Plain_6_ap := ops_rule (c := o_r_Plain_6) rfl
def c_r_Plain_4 : SC := sSeq (sReg (seqI o_r_Plain_6)) sRet
@[simp] def c_r_Plain_4_ap := seq_rule (c := c_r_Plain_4) rfl
def c_r_Plain_5 : SC := sCond (tg 19) c_r_Plain_4 sSkip
@[simp] def c_r_Plain_5_ap := cond_rule (c := c_r_Plain_5) rfl
def c_r_Plain_6 : SC := sSeq (sReg (seqI o_r_Plain_5)) c_r_Plain_5
@[simp] def c_r_Plain_6_ap := seq_rule (c := c_r_Plain_6) rfl
def o_r_Plain_7 : List IS := [ip 5 (pMov (cv (.int .i64 0)))]
@[simp] def o_r_Plain_7_ap := ops_rule (c := o_r_Plain_7) rfl
def o_r_Plain_8 : List IS := [ip 20 (pMov (tg 5)),
  ip 21 (pMov (tg 4)),
  ip 22 (pBin .lss (tg 20) (tg 21))]
@[simp] def o_r_Plain_8_ap := ops_rule (c := o_r_Plain_8) rfl
def c_r_Plain_7 : SC := sCond (tg 22) sSkip (sExit 0)
@[simp] def c_r_Plain_7_ap := cond_rule (c := c_r_Plain_7) rfl
def c_r_Plain_8 : SC := sSeq (sReg (seqI o_r_Plain_8)) c_r_Plain_7
@[simp] def c_r_Plain_8_ap := seq_rule (c := c_r_Plain_8) rfl
def o_r_Plain_9 : List IS := [ip 25 (pFaddr 0 (tg 1)),
  il 26 (tg 25) (mLoad1 (tg 25)),
  ip 27 (pMov (tg 5)),
  ip 28 (pIaddrS 2 (tg 26) (tg 27)),
  il 29 (tg 28) (mLoadN 2 (tg 28)),
  im 1 6 (mAlloc [(.int .i64 0), (.int .i64 0)]),
  im0 3 (mStore 2 (tg 6) (tg 29))]
@[simp] def o_r_Plain_9_ap := ops_rule (c := o_r_Plain_9) rfl
def o_r_Plain_10 : List IS := [ip 30 (pFaddr 0 (tg 6)),
  il 31 (tg 30) (mLoad1 (tg 30)),
  ip 32 (pBin .lss (tg 31) (cv (.int .i64 1))),
  ip 33 (pMov (tg 32)),
  gd 33 false (some 34) (ip 34 (pFaddr 0 (tg 6))),
  gd 33 false (some 35) (il 35 (tg 34) (mLoad1 (tg 34))),
  gd 33 false (some 36) (ip 36 (pBin .gtr (tg 35) (cv (.int .i64 7)))),
  ip 37 (pPick (tg 33) (cv (.bool true)) (tg 36)),
  ip 38 (pMov (tg 37)),
  gd 38 false (some 39) (ip 39 (pFaddr 1 (tg 6))),
  gd 38 false (some 40) (il 40 (tg 39) (mLoad1 (tg 39))),
  gd 38 false (some 41) (ip 41 (pBin .neq (tg 40) (cv (.int .i64 0)))),
  gd 38 false (some 42) (ip 42 (pMov (tg 41))),
  gd 42 true (some 43) (ip 43 (pFaddr 1 (tg 6))),
  gd 42 true (some 44) (il 44 (tg 43) (mLoad1 (tg 43))),
  gd 42 true (some 45) (ip 45 (pBin .lss (tg 44) (cv (.int .i64 2)))),
  gd 42 true (some 46) (ip 46 (pMov (tg 45))),
  gd 46 false (some 47) (ip 47 (pFaddr 1 (tg 6))),
  gd 46 false (some 48) (il 48 (tg 47) (mLoad1 (tg 47))),
  gd 46 false (some 49) (ip 49 (pBin .gtr (tg 48) (cv (.int .i64 5)))),
  gd 42 true (some 50) (ip 50 (pPick (tg 46) (cv (.bool true)) (tg 49))),
  gd 42 true (some 51) (ip 51 (pMov (tg 50))),
  gd 51 false (some 52) (il 52 (tg 6) (mLoadN 2 (tg 6))),
  gd 51 false (some 53) (im 3 53 (mCall 73 [(tg 52)])),
  gd 42 true (some 54) (ip 54 (pPick (tg 51) (cv (.bool true)) (tg 53))),
  gd 38 false (some 55) (ip 55 (pPick (tg 42) (tg 54) (cv (.bool false)))),
  ip 56 (pPick (tg 38) (cv (.bool true)) (tg 55))]
@[simp] def o_r_Plain_10_ap := ops_rule (c := o_r_Plain_10) rfl
def o_r_Plain_11 : List IS := [ip 57 (pMov (tg 5)),
  ip 2 (pMov (tg 57)),
  ip 3 (pMov (cv (.int .i64 1)))]
@[simp] def o_r_Plain_11_ap := ops_rule (c := o_r_Plain_11) rfl
def c_r_Plain_9 : SC := sSeq (sReg (seqI o_r_Plain_11)) sRet
@[simp] def c_r_Plain_9_ap := seq_rule (c := c_r_Plain_9) rfl
def c_r_Plain_10 : SC := sCond (tg 56) c_r_Plain_9 sSkip
@[simp] def c_r_Plain_10_ap := cond_rule (c := c_r_Plain_10) rfl
def c_r_Plain_11 : SC := sSeq (sReg (seqI o_r_Plain_10)) c_r_Plain_10
@[simp] def c_r_Plain_11_ap := seq_rule (c := c_r_Plain_11) rfl
def c_r_Plain_12 : SC := sSeq (sReg (seqI o_r_Plain_9)) c_r_Plain_11
@[simp] def c_r_Plain_12_ap := seq_rule (c := c_r_Plain_12) rfl
def c_r_Plain_13 : SC := sBlock 1 c_r_Plain_12
@[simp] def c_r_Plain_13_ap := block_rule (c := c_r_Plain_13) rfl
def o_r_Plain_12 : List IS := [ip 23 (pMov (tg 5)),
  ip 24 (pBin .add (tg 23) (cv (.int .i64 1))),
  ip 5 (pMov (tg 24))]
@[simp] def o_r_Plain_12_ap := ops_rule (c := o_r_Plain_12) rfl
def c_r_Plain_14 : SC := sSeq c_r_Plain_13 (sReg (seqI o_r_Plain_12))
@[simp] def c_r_Plain_14_ap := seq_rule (c := c_r_Plain_14) rfl
def c_r_Plain_15 : SC := sSeq c_r_Plain_8 c_r_Plain_14
@[simp] def c_r_Plain_15_ap := seq_rule (c := c_r_Plain_15) rfl
def c_r_Plain_16 : SC := sLoop c_r_Plain_15
def c_r_Plain_17 : SC := sBlock 0 c_r_Plain_16
@[simp] def c_r_Plain_17_ap := block_rule (c := c_r_Plain_17) rfl
def c_r_Plain_18 : SC := sSeq (sReg (seqI o_r_Plain_7)) c_r_Plain_17
@[simp] def c_r_Plain_18_ap := seq_rule (c := c_r_Plain_18) rfl
def o_r_Plain_13 : List IS := [ip 7 (pMov (cv (.int .i64 0)))]
@[simp] def o_r_Plain_13_ap := ops_rule (c := o_r_Plain_13) rfl
def o_r_Plain_14 : List IS := [ip 58 (pMov (tg 7)),
  ip 59 (pMov (tg 4)),
  ip 60 (pBin .lss (tg 58) (tg 59))]
@[simp] def o_r_Plain_14_ap := ops_rule (c := o_r_Plain_14) rfl
def c_r_Plain_19 : SC := sCond (tg 60) sSkip (sExit 2)
@[simp] def c_r_Plain_19_ap := cond_rule (c := c_r_Plain_19) rfl
def c_r_Plain_20 : SC := sSeq (sReg (seqI o_r_Plain_14)) c_r_Plain_19
@[simp] def c_r_Plain_20_ap := seq_rule (c := c_r_Plain_20) rfl
def o_r_Plain_15 : List DA := [⟨CI.pure (pFaddr 0 (tg 1)), (some 63), none, 0, []⟩,
  ⟨CI.load (tg 63) (mLoad1 (tg 63)), (some 64), none, 1, []⟩,
  ⟨CI.load (tg 1) (mLoadN 2 (tg 1)), (some 65), none, 2, []⟩,
  ⟨CI.pure (pMov (tg 7)), (some 66), none, 3, []⟩,
  ⟨CI.mem 3 (mCall 74 [(tg 65), (tg 66)]), (some 67), none, 4, [1]⟩,
  ⟨CI.pure (pIaddrS 2 (tg 64) (tg 67)), (some 68), none, 5, []⟩,
  ⟨CI.pure (pFaddr 0 (tg 68)), (some 69), none, 6, []⟩,
  ⟨CI.load (tg 69) (mLoad1 (tg 69)), (some 70), none, 7, []⟩,
  ⟨CI.mem 3 (mCall 64 [(tg 70)]), (some 71), none, 8, []⟩,
  ⟨CI.pure (pFaddr 0 (tg 1)), (some 72), none, 9, []⟩,
  ⟨CI.load (tg 72) (mLoad1 (tg 72)), (some 73), none, 10, [4, 8]⟩,
  ⟨CI.pure (pMov (tg 7)), (some 74), none, 11, []⟩,
  ⟨CI.pure (pIaddrS 2 (tg 73) (tg 74)), (some 75), none, 12, []⟩,
  ⟨CI.pure (pFaddr 0 (tg 75)), (some 76), none, 13, []⟩,
  ⟨CI.load (tg 76) (mLoad1 (tg 76)), (some 77), none, 14, [4, 8]⟩,
  ⟨CI.mem 3 (mCall 45 [(tg 77)]), (some 78), none, 15, []⟩,
  ⟨CI.pure (pEqB true (tg 71) (tg 78)), (some 79), none, 16, []⟩]
@[simp] def o_r_Plain_15_ap := das_rule (c := o_r_Plain_15) rfl
def o_r_Plain_16 : List IS := [ip 80 (pMov (tg 7)),
  ip 2 (pMov (tg 80)),
  ip 3 (pMov (cv (.int .i64 3)))]
@[simp] def o_r_Plain_16_ap := ops_rule (c := o_r_Plain_16) rfl
def c_r_Plain_21 : SC := sSeq (sReg (seqI o_r_Plain_16)) sRet
@[simp] def c_r_Plain_21_ap := seq_rule (c := c_r_Plain_21) rfl
def c_r_Plain_22 : SC := sCond (tg 79) c_r_Plain_21 sSkip
@[simp] def c_r_Plain_22_ap := cond_rule (c := c_r_Plain_22) rfl
def c_r_Plain_23 : SC := sSeq (sAny o_r_Plain_15) c_r_Plain_22
@[simp] def c_r_Plain_23_ap := seq_rule (c := c_r_Plain_23) rfl
def c_r_Plain_24 : SC := sBlock 3 c_r_Plain_23
@[simp] def c_r_Plain_24_ap := block_rule (c := c_r_Plain_24) rfl
def o_r_Plain_17 : List IS := [ip 61 (pMov (tg 7)),
  ip 62 (pBin .add (tg 61) (cv (.int .i64 1))),
  ip 7 (pMov (tg 62))]
@[simp] def o_r_Plain_17_ap := ops_rule (c := o_r_Plain_17) rfl
def c_r_Plain_25 : SC := sSeq c_r_Plain_24 (sReg (seqI o_r_Plain_17))
@[simp] def c_r_Plain_25_ap := seq_rule (c := c_r_Plain_25) rfl
def c_r_Plain_26 : SC := sSeq c_r_Plain_20 c_r_Plain_25
@[simp] def c_r_Plain_26_ap := seq_rule (c := c_r_Plain_26) rfl
def c_r_Plain_27 : SC := sLoop c_r_Plain_26
def c_r_Plain_28 : SC := sBlock 2 c_r_Plain_27
@[simp] def c_r_Plain_28_ap := block_rule (c := c_r_Plain_28) rfl
def c_r_Plain_29 : SC := sSeq (sReg (seqI o_r_Plain_13)) c_r_Plain_28
@[simp] def c_r_Plain_29_ap := seq_rule (c := c_r_Plain_29) rfl
def o_r_Plain_18 : List IS := [ip 8 (pMov (cv (.int .i64 0)))]
@[simp] def o_r_Plain_18_ap := ops_rule (c := o_r_Plain_18) rfl
def o_r_Plain_19 : List IS := [ip 81 (pMov (tg 8)),
  ip 82 (pMov (tg 4)),
  ip 83 (pBin .lss (tg 81) (tg 82))]
@[simp] def o_r_Plain_19_ap := ops_rule (c := o_r_Plain_19) rfl
def c_r_Plain_30 : SC := sCond (tg 83) sSkip (sExit 4)
@[simp] def c_r_Plain_30_ap := cond_rule (c := c_r_Plain_30) rfl
def c_r_Plain_31 : SC := sSeq (sReg (seqI o_r_Plain_19)) c_r_Plain_30
@[simp] def c_r_Plain_31_ap := seq_rule (c := c_r_Plain_31) rfl
def o_r_Plain_20 : List IS := [ip 86 (pFaddr 1 (tg 1)),
  il 87 (tg 86) (mLoad1 (tg 86)),
  ip 88 (pMov (tg 8)),
  ip 89 (pIaddrS 1 (tg 87) (tg 88)),
  il 90 (tg 89) (mLoad1 (tg 89)),
  ip 9 (pMov (tg 90))]
@[simp] def o_r_Plain_20_ap := ops_rule (c := o_r_Plain_20) rfl
def o_r_Plain_21 : List IS := [ip 91 (pMov (tg 9)),
  ip 92 (pBin .neq (tg 91) (cv (.int .i64 1))),
  ip 93 (pMov (tg 92)),
  gd 93 true (some 94) (ip 94 (pMov (tg 9))),
  gd 93 true (some 95) (ip 95 (pBin .neq (tg 94) (cv (.int .i64 5)))),
  ip 96 (pPick (tg 93) (tg 95) (cv (.bool false))),
  ip 97 (pMov (tg 96)),
  gd 97 true (some 98) (ip 98 (pMov (tg 9))),
  gd 97 true (some 99) (ip 99 (pBin .eql (tg 98) (cv (.int .i64 2)))),
  gd 97 true (some 100) (ip 100 (pMov (tg 99))),
  gd 100 true (some 101) (ip 101 (pFaddr 0 (tg 1))),
  gd 100 true (some 102) (il 102 (tg 101) (mLoad1 (tg 101))),
  gd 100 true (some 103) (ip 103 (pMov (tg 8))),
  gd 100 true (some 104) (ip 104 (pIaddrS 2 (tg 102) (tg 103))),
  gd 100 true (some 105) (ip 105 (pFaddr 0 (tg 104))),
  gd 100 true (some 106) (il 106 (tg 105) (mLoad1 (tg 105))),
  gd 100 true (some 107) (im 3 107 (mCall 45 [(tg 106)])),
  gd 100 true (some 108) (ip 108 (pUn .not (tg 107))),
  gd 97 true (some 109) (ip 109 (pPick (tg 100) (tg 108) (cv (.bool false)))),
  gd 97 true (some 110) (ip 110 (pUn .not (tg 109))),
  ip 111 (pPick (tg 97) (tg 110) (cv (.bool false))),
  ip 112 (pMov (tg 111)),
  gd 112 true (some 113) (ip 113 (pMov (tg 9))),
  gd 112 true (some 114) (ip 114 (pBin .eql (tg 113) (cv (.int .i64 3)))),
  gd 112 true (some 115) (ip 115 (pMov (tg 114))),
  gd 115 true (some 116) (ip 116 (pFaddr 0 (tg 1))),
  gd 115 true (some 117) (il 117 (tg 116) (mLoad1 (tg 116))),
  gd 115 true (some 118) (ip 118 (pMov (tg 8))),
  gd 115 true (some 119) (ip 119 (pIaddrS 2 (tg 117) (tg 118))),
  gd 115 true (some 120) (ip 120 (pFaddr 0 (tg 119))),
  gd 115 true (some 121) (il 121 (tg 120) (mLoad1 (tg 120))),
  gd 115 true (some 122) (im 3 122 (mCall 45 [(tg 121)])),
  gd 112 true (some 123) (ip 123 (pPick (tg 115) (tg 122) (cv (.bool false)))),
  gd 112 true (some 124) (ip 124 (pUn .not (tg 123))),
  ip 125 (pPick (tg 112) (tg 124) (cv (.bool false)))]
@[simp] def o_r_Plain_21_ap := ops_rule (c := o_r_Plain_21) rfl
def o_r_Plain_22 : List IS := [ip 126 (pMov (tg 8)),
  ip 2 (pMov (tg 126)),
  ip 3 (pMov (cv (.int .i64 25)))]
@[simp] def o_r_Plain_22_ap := ops_rule (c := o_r_Plain_22) rfl
def c_r_Plain_32 : SC := sSeq (sReg (seqI o_r_Plain_22)) sRet
@[simp] def c_r_Plain_32_ap := seq_rule (c := c_r_Plain_32) rfl
def c_r_Plain_33 : SC := sCond (tg 125) c_r_Plain_32 sSkip
@[simp] def c_r_Plain_33_ap := cond_rule (c := c_r_Plain_33) rfl
def c_r_Plain_34 : SC := sSeq (sReg (seqI o_r_Plain_21)) c_r_Plain_33
@[simp] def c_r_Plain_34_ap := seq_rule (c := c_r_Plain_34) rfl
def c_r_Plain_35 : SC := sSeq (sReg (seqI o_r_Plain_20)) c_r_Plain_34
@[simp] def c_r_Plain_35_ap := seq_rule (c := c_r_Plain_35) rfl
def c_r_Plain_36 : SC := sBlock 5 c_r_Plain_35
@[simp] def c_r_Plain_36_ap := block_rule (c := c_r_Plain_36) rfl
def o_r_Plain_23 : List IS := [ip 84 (pMov (tg 8)),
  ip 85 (pBin .add (tg 84) (cv (.int .i64 1))),
  ip 8 (pMov (tg 85))]
@[simp] def o_r_Plain_23_ap := ops_rule (c := o_r_Plain_23) rfl
def c_r_Plain_37 : SC := sSeq c_r_Plain_36 (sReg (seqI o_r_Plain_23))
@[simp] def c_r_Plain_37_ap := seq_rule (c := c_r_Plain_37) rfl
def c_r_Plain_38 : SC := sSeq c_r_Plain_31 c_r_Plain_37
@[simp] def c_r_Plain_38_ap := seq_rule (c := c_r_Plain_38) rfl
def c_r_Plain_39 : SC := sLoop c_r_Plain_38
def c_r_Plain_40 : SC := sBlock 4 c_r_Plain_39
@[simp] def c_r_Plain_40_ap := block_rule (c := c_r_Plain_40) rfl
def c_r_Plain_41 : SC := sSeq (sReg (seqI o_r_Plain_18)) c_r_Plain_40
@[simp] def c_r_Plain_41_ap := seq_rule (c := c_r_Plain_41) rfl
def o_r_Plain_24 : List IS := [ip 2 (pMov (cv (.int .i64 0))),
  ip 3 (pMov (cv (.int .i64 0)))]
@[simp] def o_r_Plain_24_ap := ops_rule (c := o_r_Plain_24) rfl
def c_r_Plain_42 : SC := sSeq (sReg (seqI o_r_Plain_24)) sRet
@[simp] def c_r_Plain_42_ap := seq_rule (c := c_r_Plain_42) rfl
def c_r_Plain_43 : SC := sSeq c_r_Plain_41 c_r_Plain_42
@[simp] def c_r_Plain_43_ap := seq_rule (c := c_r_Plain_43) rfl
def c_r_Plain_44 : SC := sSeq c_r_Plain_29 c_r_Plain_43
@[simp] def c_r_Plain_44_ap := seq_rule (c := c_r_Plain_44) rfl
def c_r_Plain_45 : SC := sSeq c_r_Plain_18 c_r_Plain_44
@[simp] def c_r_Plain_45_ap := seq_rule (c := c_r_Plain_45) rfl
def c_r_Plain_46 : SC := sSeq c_r_Plain_6 c_r_Plain_45
@[simp] def c_r_Plain_46_ap := seq_rule (c := c_r_Plain_46) rfl
def c_r_Plain_47 : SC := sSeq c_r_Plain_3 c_r_Plain_46
@[simp] def c_r_Plain_47_ap := seq_rule (c := c_r_Plain_47) rfl
def c_r_Plain_48 : SC := sSeq (sReg (seqI o_r_Plain_2)) c_r_Plain_47
@[simp] def c_r_Plain_48_ap := seq_rule (c := c_r_Plain_48) rfl
def c_r_Plain_49 : SC := sSeq (sReg (seqI o_r_Plain_1)) c_r_Plain_48
@[simp] def c_r_Plain_49_ap := seq_rule (c := c_r_Plain_49) rfl
def d_r_Plain : DFn := ⟨c_r_Plain_49, 127, [.t 2, .t 3]⟩
theorem d_r_Plain_ok : fnOf Try.prog 42 = some d_r_Plain := by kernel_rfl
def o_r_count_1 : List IS := [im 1 1 (mBox (tg 0)),
  ip 2 (pMov (cv (.int .i64 0))),
  ip 3 (pMov (cv (.int .i64 0)))]
@[simp] def o_r_count_1_ap := ops_rule (c := o_r_count_1) rfl
def o_r_count_2 : List IS := [ip 4 (pMov (cv (.int .i64 0)))]
@[simp] def o_r_count_2_ap := ops_rule (c := o_r_count_2) rfl
def o_r_count_3 : List IS := [ip 5 (pMov (cv (.int .i64 0)))]
@[simp] def o_r_count_3_ap := ops_rule (c := o_r_count_3) rfl
def o_r_count_4 : List IS := [ip 6 (pMov (tg 5)),
  ip 7 (pFaddr 0 (tg 1)),
  il 8 (tg 7) (mLoad1 (tg 7)),
  ip 9 (pLen (tg 8)),
  ip 10 (pBin .lss (tg 6) (tg 9))]
@[simp] def o_r_count_4_ap := ops_rule (c := o_r_count_4) rfl
def c_r_count_1 : SC := sCond (tg 10) sSkip (sExit 0)
@[simp] def c_r_count_1_ap := cond_rule (c := c_r_count_1) rfl
def c_r_count_2 : SC := sSeq (sReg (seqI o_r_count_4)) c_r_count_1
@[simp] def c_r_count_2_ap := seq_rule (c := c_r_count_2) rfl
def o_r_count_5 : List IS := [ip 13 (pFaddr 0 (tg 1)),
  il 14 (tg 13) (mLoad1 (tg 13)),
  ip 15 (pMov (tg 5)),
  ip 16 (pIaddrS 2 (tg 14) (tg 15)),
  il 17 (tg 16) (mLoadN 2 (tg 16)),
  im 3 18 (mCall 73 [(tg 17)])]
@[simp] def o_r_count_5_ap := ops_rule (c := o_r_count_5) rfl
def o_r_count_6 : List IS := [ip 19 (pMov (tg 4)),
  ip 20 (pBin .add (tg 19) (cv (.int .i64 1))),
  ip 4 (pMov (tg 20))]
@[simp] def o_r_count_6_ap := ops_rule (c := o_r_count_6) rfl
def c_r_count_3 : SC := sCond (tg 18) (sReg (seqI o_r_count_6)) sSkip
@[simp] def c_r_count_3_ap := cond_rule (c := c_r_count_3) rfl
def c_r_count_4 : SC := sSeq (sReg (seqI o_r_count_5)) c_r_count_3
@[simp] def c_r_count_4_ap := seq_rule (c := c_r_count_4) rfl
def c_r_count_5 : SC := sBlock 1 c_r_count_4
@[simp] def c_r_count_5_ap := block_rule (c := c_r_count_5) rfl
def o_r_count_7 : List IS := [ip 11 (pMov (tg 5)),
  ip 12 (pBin .add (tg 11) (cv (.int .i64 1))),
  ip 5 (pMov (tg 12))]
@[simp] def o_r_count_7_ap := ops_rule (c := o_r_count_7) rfl
def c_r_count_6 : SC := sSeq c_r_count_5 (sReg (seqI o_r_count_7))
@[simp] def c_r_count_6_ap := seq_rule (c := c_r_count_6) rfl
def c_r_count_7 : SC := sSeq c_r_count_2 c_r_count_6
@[simp] def c_r_count_7_ap := seq_rule (c := c_r_count_7) rfl
def c_r_count_8 : SC := sLoop c_r_count_7
def c_r_count_9 : SC := sBlock 0 c_r_count_8
@[simp] def c_r_count_9_ap := block_rule (c := c_r_count_9) rfl
def c_r_count_10 : SC := sSeq (sReg (seqI o_r_count_3)) c_r_count_9
@[simp] def c_r_count_10_ap := seq_rule (c := c_r_count_10) rfl
def o_r_count_8 : List DA := [⟨CI.pure (pMov (tg 4)), (some 21), none, 0, []⟩,
  ⟨CI.pure (pFaddr 0 (tg 1)), (some 22), none, 1, []⟩,
  ⟨CI.load (tg 22) (mLoad1 (tg 22)), (some 23), none, 2, []⟩,
  ⟨CI.pure (pLen (tg 23)), (some 24), none, 3, []⟩,
  ⟨CI.pure (pMov (tg 4)), (some 25), none, 4, []⟩,
  ⟨CI.pure (pBin .sub (tg 24) (tg 25)), (some 26), none, 5, []⟩,
  ⟨CI.pure (pMov (tg 21)), (some 2), none, 6, []⟩,
  ⟨CI.pure (pMov (tg 26)), (some 3), none, 7, []⟩]
@[simp] def o_r_count_8_ap := das_rule (c := o_r_count_8) rfl
def c_r_count_11 : SC := sSeq (sAny o_r_count_8) sRet
@[simp] def c_r_count_11_ap := seq_rule (c := c_r_count_11) rfl
def c_r_count_12 : SC := sSeq c_r_count_10 c_r_count_11
@[simp] def c_r_count_12_ap := seq_rule (c := c_r_count_12) rfl
def c_r_count_13 : SC := sSeq (sReg (seqI o_r_count_2)) c_r_count_12
@[simp] def c_r_count_13_ap := seq_rule (c := c_r_count_13) rfl
def c_r_count_14 : SC := sSeq (sReg (seqI o_r_count_1)) c_r_count_13
@[simp] def c_r_count_14_ap := seq_rule (c := c_r_count_14) rfl
def d_r_count : DFn := ⟨c_r_count_14, 27, [.t 2, .t 3]⟩
theorem d_r_count_ok : fnOf Try.prog 43 = some d_r_count := by kernel_rfl
def o_r_Order_1 : List IS := [im 1 1 (mBox (tg 0)),
  ip 2 (pMov (cv (.slice none 0 0)))]
@[simp] def o_r_Order_1_ap := ops_rule (c := o_r_Order_1) rfl
def o_r_Order_2 : List IS := [ip 7 (pFaddr 0 (tg 1)),
  il 8 (tg 7) (mLoad1 (tg 7)),
  ip 9 (pLen (tg 8)),
  ip 3 (pMov (tg 9))]
@[simp] def o_r_Order_2_ap := ops_rule (c := o_r_Order_2) rfl
def o_r_Order_3 : List IS := [ip 4 (pMov (cv (.slice none 0 0)))]
@[simp] def o_r_Order_3_ap := ops_rule (c := o_r_Order_3) rfl
def o_r_Order_4 : List IS := [il 10 (tg 1) (mLoadN 2 (tg 1)),
  im 3 11 (mCall 75 [(tg 10)]),
  ip 5 (pMov (tg 11))]
@[simp] def o_r_Order_4_ap := ops_rule (c := o_r_Order_4) rfl
def o_r_Order_5 : List IS := [ip 6 (pMov (cv (.int .i64 0)))]
@[simp] def o_r_Order_5_ap := ops_rule (c := o_r_Order_5) rfl
def o_r_Order_6 : List IS := [ip 12 (pMov (tg 6)),
  ip 13 (pMov (tg 3)),
  ip 14 (pBin .lss (tg 12) (tg 13))]
@[simp] def o_r_Order_6_ap := ops_rule (c := o_r_Order_6) rfl
def c_r_Order_1 : SC := sCond (tg 14) sSkip (sExit 0)
@[simp] def c_r_Order_1_ap := cond_rule (c := c_r_Order_1) rfl
def c_r_Order_2 : SC := sSeq (sReg (seqI o_r_Order_6)) c_r_Order_1
@[simp] def c_r_Order_2_ap := seq_rule (c := c_r_Order_2) rfl
def o_r_Order_7 : List IS := [ip 17 (pMov (tg 4)),
  ip 18 (pMov (tg 5)),
  ip 19 (pMov (tg 6)),
  ip 20 (pBin .add (tg 18) (tg 19)),
  ip 21 (pMov (tg 3)),
  ip 22 (pBin .rem (tg 20) (tg 21)),
  im 1 23 (mBslice 1 1 (rep 1 [(.int .i64 0)]) [(0, 1, (tg 22))]),
  im 3 24 (mAppend 1 8 (tg 17) (tg 23)),
  ip 4 (pMov (tg 24))]
@[simp] def o_r_Order_7_ap := ops_rule (c := o_r_Order_7) rfl
def c_r_Order_3 : SC := sBlock 1 (sReg (seqI o_r_Order_7))
@[simp] def c_r_Order_3_ap := block_rule (c := c_r_Order_3) rfl
def o_r_Order_8 : List IS := [ip 15 (pMov (tg 6)),
  ip 16 (pBin .add (tg 15) (cv (.int .i64 1))),
  ip 6 (pMov (tg 16))]
@[simp] def o_r_Order_8_ap := ops_rule (c := o_r_Order_8) rfl
def c_r_Order_4 : SC := sSeq c_r_Order_3 (sReg (seqI o_r_Order_8))
@[simp] def c_r_Order_4_ap := seq_rule (c := c_r_Order_4) rfl
def c_r_Order_5 : SC := sSeq c_r_Order_2 c_r_Order_4
@[simp] def c_r_Order_5_ap := seq_rule (c := c_r_Order_5) rfl
def c_r_Order_6 : SC := sLoop c_r_Order_5
def c_r_Order_7 : SC := sBlock 0 c_r_Order_6
@[simp] def c_r_Order_7_ap := block_rule (c := c_r_Order_7) rfl
def c_r_Order_8 : SC := sSeq (sReg (seqI o_r_Order_5)) c_r_Order_7
@[simp] def c_r_Order_8_ap := seq_rule (c := c_r_Order_8) rfl
def o_r_Order_9 : List IS := [ip 25 (pMov (tg 4)),
  ip 2 (pMov (tg 25))]
@[simp] def o_r_Order_9_ap := ops_rule (c := o_r_Order_9) rfl
def c_r_Order_9 : SC := sSeq (sReg (seqI o_r_Order_9)) sRet
@[simp] def c_r_Order_9_ap := seq_rule (c := c_r_Order_9) rfl
def c_r_Order_10 : SC := sSeq c_r_Order_8 c_r_Order_9
@[simp] def c_r_Order_10_ap := seq_rule (c := c_r_Order_10) rfl
def c_r_Order_11 : SC := sSeq (sReg (seqI o_r_Order_4)) c_r_Order_10
@[simp] def c_r_Order_11_ap := seq_rule (c := c_r_Order_11) rfl
def c_r_Order_12 : SC := sSeq (sReg (seqI o_r_Order_3)) c_r_Order_11
@[simp] def c_r_Order_12_ap := seq_rule (c := c_r_Order_12) rfl
def c_r_Order_13 : SC := sSeq (sReg (seqI o_r_Order_2)) c_r_Order_12
@[simp] def c_r_Order_13_ap := seq_rule (c := c_r_Order_13) rfl
def c_r_Order_14 : SC := sSeq (sReg (seqI o_r_Order_1)) c_r_Order_13
@[simp] def c_r_Order_14_ap := seq_rule (c := c_r_Order_14) rfl
def d_r_Order : DFn := ⟨c_r_Order_14, 26, [.t 2]⟩
theorem d_r_Order_ok : fnOf Try.prog 44 = some d_r_Order := by kernel_rfl
def o_r_From_1 : List IS := [ip 2 (pMov (cv (.bool false)))]
@[simp] def o_r_From_1_ap := ops_rule (c := o_r_From_1) rfl
def o_r_From_2 : List IS := [ip 3 (pMov (tg 0)),
  ip 4 (pBin .eql (tg 3) (cv (.int .i64 1))),
  ip 5 (pMov (tg 4)),
  gd 5 false (some 6) (ip 6 (pMov (tg 0))),
  gd 5 false (some 7) (ip 7 (pBin .eql (tg 6) (cv (.int .i64 3)))),
  ip 8 (pPick (tg 5) (cv (.bool true)) (tg 7)),
  ip 9 (pMov (tg 8)),
  gd 9 false (some 10) (ip 10 (pMov (tg 0))),
  gd 9 false (some 11) (ip 11 (pBin .eql (tg 10) (cv (.int .i64 6)))),
  ip 12 (pPick (tg 9) (cv (.bool true)) (tg 11)),
  ip 13 (pMov (tg 12)),
  gd 13 false (some 14) (ip 14 (pMov (tg 0))),
  gd 13 false (some 15) (ip 15 (pBin .eql (tg 14) (cv (.int .i64 7)))),
  ip 16 (pPick (tg 13) (cv (.bool true)) (tg 15)),
  ip 2 (pMov (tg 16))]
@[simp] def o_r_From_2_ap := ops_rule (c := o_r_From_2) rfl
def c_r_From_1 : SC := sSeq (sReg (seqI o_r_From_2)) sRet
@[simp] def c_r_From_1_ap := seq_rule (c := c_r_From_1) rfl
def c_r_From_2 : SC := sSeq (sReg (seqI o_r_From_1)) c_r_From_1
@[simp] def c_r_From_2_ap := seq_rule (c := c_r_From_2) rfl
def d_r_From : DFn := ⟨c_r_From_2, 17, [.t 2]⟩
theorem d_r_From_ok : fnOf Try.prog 45 = some d_r_From := by kernel_rfl
def o_r_Cell_1 : List IS := [im 1 2 (mBox (tg 0)),
  ip 4 (pMov (cv (.int .i64 0)))]
@[simp] def o_r_Cell_1_ap := ops_rule (c := o_r_Cell_1) rfl
def o_r_Cell_2 : List DA := [⟨CI.load (tg 2) (mLoadN 2 (tg 2)), (some 5), none, 0, []⟩,
  ⟨CI.load (tg 2) (mLoadN 2 (tg 2)), (some 6), none, 1, []⟩,
  ⟨CI.pure (pMov (tg 1)), (some 7), none, 2, []⟩,
  ⟨CI.mem 3 (mCall 77 [(tg 6), (tg 7), (cv (.bool true))]), (some 8), none, 3, [0]⟩,
  ⟨CI.mem 3 (mCall 76 [(tg 5), (tg 8), (cv (.bool true))]), (some 9), none, 4, []⟩,
  ⟨CI.pure (pMov (tg 9)), (some 4), none, 5, []⟩]
@[simp] def o_r_Cell_2_ap := das_rule (c := o_r_Cell_2) rfl
def c_r_Cell_1 : SC := sSeq (sAny o_r_Cell_2) sRet
@[simp] def c_r_Cell_1_ap := seq_rule (c := c_r_Cell_1) rfl
def c_r_Cell_2 : SC := sSeq (sReg (seqI o_r_Cell_1)) c_r_Cell_1
@[simp] def c_r_Cell_2_ap := seq_rule (c := c_r_Cell_2) rfl
def d_r_Cell : DFn := ⟨c_r_Cell_2, 10, [.t 4]⟩
theorem d_r_Cell_ok : fnOf Try.prog 46 = some d_r_Cell := by kernel_rfl
def o_r_Thread_1 : List IS := [im 1 2 (mBox (tg 0)),
  ip 4 (pMov (cv (.int .i64 0)))]
@[simp] def o_r_Thread_1_ap := ops_rule (c := o_r_Thread_1) rfl
def o_r_Thread_2 : List DA := [⟨CI.load (tg 2) (mLoadN 2 (tg 2)), (some 5), none, 0, []⟩,
  ⟨CI.load (tg 2) (mLoadN 2 (tg 2)), (some 6), none, 1, []⟩,
  ⟨CI.pure (pMov (tg 1)), (some 7), none, 2, []⟩,
  ⟨CI.mem 3 (mCall 77 [(tg 6), (tg 7), (cv (.bool false))]), (some 8), none, 3, [0]⟩,
  ⟨CI.mem 3 (mCall 76 [(tg 5), (tg 8), (cv (.bool false))]), (some 9), none, 4, []⟩,
  ⟨CI.pure (pMov (tg 9)), (some 4), none, 5, []⟩]
@[simp] def o_r_Thread_2_ap := das_rule (c := o_r_Thread_2) rfl
def c_r_Thread_1 : SC := sSeq (sAny o_r_Thread_2) sRet
@[simp] def c_r_Thread_1_ap := seq_rule (c := c_r_Thread_1) rfl
def c_r_Thread_2 : SC := sSeq (sReg (seqI o_r_Thread_1)) c_r_Thread_1
@[simp] def c_r_Thread_2_ap := seq_rule (c := c_r_Thread_2) rfl
def d_r_Thread : DFn := ⟨c_r_Thread_2, 10, [.t 4]⟩
theorem d_r_Thread_ok : fnOf Try.prog 47 = some d_r_Thread := by kernel_rfl
def o_r_Fence_1 : List IS := [im 1 2 (mBox (tg 0)),
  ip 4 (pMov (cv (.int .i64 0)))]
@[simp] def o_r_Fence_1_ap := ops_rule (c := o_r_Fence_1) rfl
def o_r_Fence_2 : List DA := [⟨CI.pure (pFaddr 0 (tg 2)), (some 5), none, 0, []⟩,
  ⟨CI.load (tg 5) (mLoad1 (tg 5)), (some 6), none, 1, []⟩,
  ⟨CI.load (tg 2) (mLoadN 2 (tg 2)), (some 7), none, 2, []⟩,
  ⟨CI.pure (pMov (tg 1)), (some 8), none, 3, []⟩,
  ⟨CI.mem 3 (mCall 74 [(tg 7), (tg 8)]), (some 9), none, 4, [1]⟩,
  ⟨CI.pure (pIaddrS 2 (tg 6) (tg 9)), (some 10), none, 5, []⟩,
  ⟨CI.pure (pFaddr 1 (tg 10)), (some 11), none, 6, []⟩,
  ⟨CI.load (tg 11) (mLoad1 (tg 11)), (some 12), none, 7, []⟩,
  ⟨CI.pure (pMov (tg 12)), (some 4), none, 8, []⟩]
@[simp] def o_r_Fence_2_ap := das_rule (c := o_r_Fence_2) rfl
def c_r_Fence_1 : SC := sSeq (sAny o_r_Fence_2) sRet
@[simp] def c_r_Fence_1_ap := seq_rule (c := c_r_Fence_1) rfl
def c_r_Fence_2 : SC := sSeq (sReg (seqI o_r_Fence_1)) c_r_Fence_1
@[simp] def c_r_Fence_2_ap := seq_rule (c := c_r_Fence_2) rfl
def d_r_Fence : DFn := ⟨c_r_Fence_2, 13, [.t 4]⟩
theorem d_r_Fence_ok : fnOf Try.prog 48 = some d_r_Fence := by kernel_rfl
def o_r_Value_1 : List IS := [im 1 2 (mBox (tg 0)),
  ip 4 (pMov (cv (.int .i64 0)))]
@[simp] def o_r_Value_1_ap := ops_rule (c := o_r_Value_1) rfl
def o_r_Value_2 : List IS := [il 7 (tg 2) (mLoadN 2 (tg 2)),
  ip 8 (pMov (tg 1)),
  im 3 9 (mCall 74 [(tg 7), (tg 8)]),
  ip 5 (pMov (tg 9))]
@[simp] def o_r_Value_2_ap := ops_rule (c := o_r_Value_2) rfl
def o_r_Value_3 : List IS := [ip 10 (pFaddr 0 (tg 2)),
  il 11 (tg 10) (mLoad1 (tg 10)),
  ip 12 (pMov (tg 1)),
  ip 13 (pIaddrS 2 (tg 11) (tg 12)),
  ip 14 (pFaddr 0 (tg 13)),
  il 15 (tg 14) (mLoad1 (tg 14)),
  im 3 16 (mCall 45 [(tg 15)]),
  ip 17 (pUn .not (tg 16))]
@[simp] def o_r_Value_3_ap := ops_rule (c := o_r_Value_3) rfl
def o_r_Value_4 : List IS := [ip 18 (pFaddr 0 (tg 2)),
  il 19 (tg 18) (mLoad1 (tg 18)),
  ip 20 (pMov (tg 5)),
  ip 21 (pIaddrS 2 (tg 19) (tg 20)),
  ip 22 (pFaddr 0 (tg 21)),
  il 23 (tg 22) (mLoad1 (tg 22)),
  ip 24 (pBin .eql (tg 23) (cv (.int .i64 1)))]
@[simp] def o_r_Value_4_ap := ops_rule (c := o_r_Value_4) rfl
def o_r_Value_5 : List IS := [il 25 (tg 2) (mLoadN 2 (tg 2)),
  ip 26 (pMov (tg 5)),
  im 3 27 (mCall 50 [(tg 25), (tg 26)]),
  ip 4 (pMov (tg 27))]
@[simp] def o_r_Value_5_ap := ops_rule (c := o_r_Value_5) rfl
def c_r_Value_1 : SC := sSeq (sReg (seqI o_r_Value_5)) sRet
@[simp] def c_r_Value_1_ap := seq_rule (c := c_r_Value_1) rfl
def c_r_Value_2 : SC := sCond (tg 24) c_r_Value_1 sSkip
@[simp] def c_r_Value_2_ap := cond_rule (c := c_r_Value_2) rfl
def c_r_Value_3 : SC := sSeq (sReg (seqI o_r_Value_4)) c_r_Value_2
@[simp] def c_r_Value_3_ap := seq_rule (c := c_r_Value_3) rfl
def o_r_Value_6 : List IS := [ip 4 (pMov (cv (.int .i64 0)))]
@[simp] def o_r_Value_6_ap := ops_rule (c := o_r_Value_6) rfl
def c_r_Value_4 : SC := sSeq (sReg (seqI o_r_Value_6)) sRet
@[simp] def c_r_Value_4_ap := seq_rule (c := c_r_Value_4) rfl
def c_r_Value_5 : SC := sSeq c_r_Value_3 c_r_Value_4
@[simp] def c_r_Value_5_ap := seq_rule (c := c_r_Value_5) rfl
def c_r_Value_6 : SC := sCond (tg 17) c_r_Value_5 sSkip
@[simp] def c_r_Value_6_ap := cond_rule (c := c_r_Value_6) rfl
def c_r_Value_7 : SC := sSeq (sReg (seqI o_r_Value_3)) c_r_Value_6
@[simp] def c_r_Value_7_ap := seq_rule (c := c_r_Value_7) rfl
def o_r_Value_7 : List IS := [ip 6 (pMov (cv (.int .i64 1)))]
@[simp] def o_r_Value_7_ap := ops_rule (c := o_r_Value_7) rfl
def o_r_Value_8 : List DA := [⟨CI.pure (pFaddr 0 (tg 2)), (some 28), none, 0, []⟩,
  ⟨CI.load (tg 28) (mLoad1 (tg 28)), (some 29), none, 1, []⟩,
  ⟨CI.load (tg 2) (mLoadN 2 (tg 2)), (some 30), none, 2, []⟩,
  ⟨CI.pure (pMov (tg 1)), (some 31), none, 3, []⟩,
  ⟨CI.mem 3 (mCall 74 [(tg 30), (tg 31)]), (some 32), none, 4, [1]⟩,
  ⟨CI.pure (pIaddrS 2 (tg 29) (tg 32)), (some 33), none, 5, []⟩,
  ⟨CI.load (tg 33) (mLoadN 2 (tg 33)), (some 34), none, 6, []⟩,
  ⟨CI.mem 3 (mCall 73 [(tg 34)]), (some 35), none, 7, []⟩]
@[simp] def o_r_Value_8_ap := das_rule (c := o_r_Value_8) rfl
def c_r_Value_8 : SC := sCond (tg 35) sSkip (sExit 0)
@[simp] def c_r_Value_8_ap := cond_rule (c := c_r_Value_8) rfl
def c_r_Value_9 : SC := sSeq (sAny o_r_Value_8) c_r_Value_8
@[simp] def c_r_Value_9_ap := seq_rule (c := c_r_Value_9) rfl
def o_r_Value_9 : List IS := [il 36 (tg 2) (mLoadN 2 (tg 2)),
  ip 37 (pMov (tg 1)),
  im 3 38 (mCall 74 [(tg 36), (tg 37)]),
  ip 1 (pMov (tg 38))]
@[simp] def o_r_Value_9_ap := ops_rule (c := o_r_Value_9) rfl
def o_r_Value_10 : List IS := [ip 39 (pFaddr 0 (tg 2)),
  il 40 (tg 39) (mLoad1 (tg 39)),
  ip 41 (pMov (tg 1)),
  ip 42 (pIaddrS 2 (tg 40) (tg 41)),
  ip 43 (pFaddr 0 (tg 42)),
  il 44 (tg 43) (mLoad1 (tg 43)),
  im 3 45 (mCall 45 [(tg 44)])]
@[simp] def o_r_Value_10_ap := ops_rule (c := o_r_Value_10) rfl
def o_r_Value_11 : List IS := [ip 46 (pMov (tg 6)),
  ip 47 (pBin .add (tg 46) (cv (.int .i64 1))),
  ip 6 (pMov (tg 47))]
@[simp] def o_r_Value_11_ap := ops_rule (c := o_r_Value_11) rfl
def c_r_Value_10 : SC := sCond (tg 45) (sReg (seqI o_r_Value_11)) sSkip
@[simp] def c_r_Value_10_ap := cond_rule (c := c_r_Value_10) rfl
def c_r_Value_11 : SC := sSeq (sReg (seqI o_r_Value_10)) c_r_Value_10
@[simp] def c_r_Value_11_ap := seq_rule (c := c_r_Value_11) rfl
def c_r_Value_12 : SC := sSeq (sReg (seqI o_r_Value_9)) c_r_Value_11
@[simp] def c_r_Value_12_ap := seq_rule (c := c_r_Value_12) rfl
def c_r_Value_13 : SC := sBlock 1 c_r_Value_12
@[simp] def c_r_Value_13_ap := block_rule (c := c_r_Value_13) rfl
def c_r_Value_14 : SC := sSeq c_r_Value_9 c_r_Value_13
@[simp] def c_r_Value_14_ap := seq_rule (c := c_r_Value_14) rfl
def c_r_Value_15 : SC := sLoop c_r_Value_14
def c_r_Value_16 : SC := sBlock 0 c_r_Value_15
@[simp] def c_r_Value_16_ap := block_rule (c := c_r_Value_16) rfl
def o_r_Value_12 : List IS := [ip 48 (pMov (tg 6)),
  ip 4 (pMov (tg 48))]
@[simp] def o_r_Value_12_ap := ops_rule (c := o_r_Value_12) rfl
def c_r_Value_17 : SC := sSeq (sReg (seqI o_r_Value_12)) sRet
@[simp] def c_r_Value_17_ap := seq_rule (c := c_r_Value_17) rfl
def c_r_Value_18 : SC := sSeq c_r_Value_16 c_r_Value_17
@[simp] def c_r_Value_18_ap := seq_rule (c := c_r_Value_18) rfl
def c_r_Value_19 : SC := sSeq (sReg (seqI o_r_Value_7)) c_r_Value_18
@[simp] def c_r_Value_19_ap := seq_rule (c := c_r_Value_19) rfl
def c_r_Value_20 : SC := sSeq c_r_Value_7 c_r_Value_19
@[simp] def c_r_Value_20_ap := seq_rule (c := c_r_Value_20) rfl
def c_r_Value_21 : SC := sSeq (sReg (seqI o_r_Value_2)) c_r_Value_20
@[simp] def c_r_Value_21_ap := seq_rule (c := c_r_Value_21) rfl
def c_r_Value_22 : SC := sSeq (sReg (seqI o_r_Value_1)) c_r_Value_21
@[simp] def c_r_Value_22_ap := seq_rule (c := c_r_Value_22) rfl
def d_r_Value : DFn := ⟨c_r_Value_22, 49, [.t 4]⟩
theorem d_r_Value_ok : fnOf Try.prog 50 = some d_r_Value := by kernel_rfl
def o_s_Clone_weave_Edge_weave_Edge_1 : List IS := [ip 2 (pMov (cv (.slice none 0 0)))]
@[simp] def o_s_Clone_weave_Edge_weave_Edge_1_ap := ops_rule (c := o_s_Clone_weave_Edge_weave_Edge_1) rfl
def o_s_Clone_weave_Edge_weave_Edge_2 : List IS := [ip 3 (pMov (tg 0)),
  ip 4 (pEqN false nilS true (tg 3) (cv (.slice none 0 0)))]
@[simp] def o_s_Clone_weave_Edge_weave_Edge_2_ap := ops_rule (c := o_s_Clone_weave_Edge_weave_Edge_2) rfl
def o_s_Clone_weave_Edge_weave_Edge_3 : List IS := [ip 2 (pMov (cv (.slice none 0 0)))]
@[simp] def o_s_Clone_weave_Edge_weave_Edge_3_ap := ops_rule (c := o_s_Clone_weave_Edge_weave_Edge_3) rfl
def c_s_Clone_weave_Edge_weave_Edge_1 : SC := sSeq (sReg (seqI o_s_Clone_weave_Edge_weave_Edge_3)) sRet
@[simp] def c_s_Clone_weave_Edge_weave_Edge_1_ap := seq_rule (c := c_s_Clone_weave_Edge_weave_Edge_1) rfl
def c_s_Clone_weave_Edge_weave_Edge_2 : SC := sCond (tg 4) c_s_Clone_weave_Edge_weave_Edge_1 sSkip
@[simp] def c_s_Clone_weave_Edge_weave_Edge_2_ap := cond_rule (c := c_s_Clone_weave_Edge_weave_Edge_2) rfl
def c_s_Clone_weave_Edge_weave_Edge_3 : SC := sSeq (sReg (seqI o_s_Clone_weave_Edge_weave_Edge_2)) c_s_Clone_weave_Edge_weave_Edge_2
@[simp] def c_s_Clone_weave_Edge_weave_Edge_3_ap := seq_rule (c := c_s_Clone_weave_Edge_weave_Edge_3) rfl
def o_s_Clone_weave_Edge_weave_Edge_4 : List IS := [im 1 5 (mBslice 2 0 (rep 0 [(.int .i64 0), (.int .i64 0)]) []),
  ip 6 (pMov (tg 0)),
  im 3 7 (mAppend 2 16 (tg 5) (tg 6)),
  ip 2 (pMov (tg 7))]
@[simp] def o_s_Clone_weave_Edge_weave_Edge_4_ap := ops_rule (c := o_s_Clone_weave_Edge_weave_Edge_4) rfl
def c_s_Clone_weave_Edge_weave_Edge_4 : SC := sSeq (sReg (seqI o_s_Clone_weave_Edge_weave_Edge_4)) sRet
@[simp] def c_s_Clone_weave_Edge_weave_Edge_4_ap := seq_rule (c := c_s_Clone_weave_Edge_weave_Edge_4) rfl
def c_s_Clone_weave_Edge_weave_Edge_5 : SC := sSeq c_s_Clone_weave_Edge_weave_Edge_3 c_s_Clone_weave_Edge_weave_Edge_4
@[simp] def c_s_Clone_weave_Edge_weave_Edge_5_ap := seq_rule (c := c_s_Clone_weave_Edge_weave_Edge_5) rfl
def c_s_Clone_weave_Edge_weave_Edge_6 : SC := sSeq (sReg (seqI o_s_Clone_weave_Edge_weave_Edge_1)) c_s_Clone_weave_Edge_weave_Edge_5
@[simp] def c_s_Clone_weave_Edge_weave_Edge_6_ap := seq_rule (c := c_s_Clone_weave_Edge_weave_Edge_6) rfl
def d_s_Clone_weave_Edge_weave_Edge : DFn := ⟨c_s_Clone_weave_Edge_weave_Edge_6, 8, [.t 2]⟩
theorem d_s_Clone_weave_Edge_weave_Edge_ok : fnOf Try.prog 56 = some d_s_Clone_weave_Edge_weave_Edge := by kernel_rfl
def o_s_Clone_int_int_1 : List IS := [ip 2 (pMov (cv (.slice none 0 0)))]
@[simp] def o_s_Clone_int_int_1_ap := ops_rule (c := o_s_Clone_int_int_1) rfl
def o_s_Clone_int_int_2 : List IS := [ip 3 (pMov (tg 0)),
  ip 4 (pEqN false nilS true (tg 3) (cv (.slice none 0 0)))]
@[simp] def o_s_Clone_int_int_2_ap := ops_rule (c := o_s_Clone_int_int_2) rfl
def o_s_Clone_int_int_3 : List IS := [ip 2 (pMov (cv (.slice none 0 0)))]
@[simp] def o_s_Clone_int_int_3_ap := ops_rule (c := o_s_Clone_int_int_3) rfl
def c_s_Clone_int_int_1 : SC := sSeq (sReg (seqI o_s_Clone_int_int_3)) sRet
@[simp] def c_s_Clone_int_int_1_ap := seq_rule (c := c_s_Clone_int_int_1) rfl
def c_s_Clone_int_int_2 : SC := sCond (tg 4) c_s_Clone_int_int_1 sSkip
@[simp] def c_s_Clone_int_int_2_ap := cond_rule (c := c_s_Clone_int_int_2) rfl
def c_s_Clone_int_int_3 : SC := sSeq (sReg (seqI o_s_Clone_int_int_2)) c_s_Clone_int_int_2
@[simp] def c_s_Clone_int_int_3_ap := seq_rule (c := c_s_Clone_int_int_3) rfl
def o_s_Clone_int_int_4 : List IS := [im 1 5 (mBslice 1 0 (rep 0 [(.int .i64 0)]) []),
  ip 6 (pMov (tg 0)),
  im 3 7 (mAppend 1 8 (tg 5) (tg 6)),
  ip 2 (pMov (tg 7))]
@[simp] def o_s_Clone_int_int_4_ap := ops_rule (c := o_s_Clone_int_int_4) rfl
def c_s_Clone_int_int_4 : SC := sSeq (sReg (seqI o_s_Clone_int_int_4)) sRet
@[simp] def c_s_Clone_int_int_4_ap := seq_rule (c := c_s_Clone_int_int_4) rfl
def c_s_Clone_int_int_5 : SC := sSeq c_s_Clone_int_int_3 c_s_Clone_int_int_4
@[simp] def c_s_Clone_int_int_5_ap := seq_rule (c := c_s_Clone_int_int_5) rfl
def c_s_Clone_int_int_6 : SC := sSeq (sReg (seqI o_s_Clone_int_int_1)) c_s_Clone_int_int_5
@[simp] def c_s_Clone_int_int_6_ap := seq_rule (c := c_s_Clone_int_int_6) rfl
def d_s_Clone_int_int : DFn := ⟨c_s_Clone_int_int_6, 8, [.t 2]⟩
theorem d_s_Clone_int_int_ok : fnOf Try.prog 57 = some d_s_Clone_int_int := by kernel_rfl
def o_w_turned_1 : List IS := [im 1 2 (mBox (tg 0)),
  im 1 4 (mAlloc [(.slice none 0 0), (.slice none 0 0)])]
@[simp] def o_w_turned_1_ap := ops_rule (c := o_w_turned_1) rfl
def o_w_turned_2 : List DA := [⟨CI.pure (pFaddr 0 (tg 2)), (some 5), none, 0, []⟩,
  ⟨CI.load (tg 5) (mLoad1 (tg 5)), (some 6), none, 1, []⟩,
  ⟨CI.pure (pMov (tg 1)), (some 7), none, 2, []⟩,
  ⟨CI.pure (pSlice 2 (tg 6) (some (tg 7)) none none), (some 8), none, 3, []⟩,
  ⟨CI.pure (pFaddr 0 (tg 2)), (some 9), none, 4, []⟩,
  ⟨CI.load (tg 9) (mLoad1 (tg 9)), (some 10), none, 5, []⟩,
  ⟨CI.pure (pMov (tg 1)), (some 11), none, 6, []⟩,
  ⟨CI.pure (pSlice 2 (tg 10) none (some (tg 11)) none), (some 12), none, 7, []⟩,
  ⟨CI.mem 1 (mBslice 1 2 (rep 2 [(.slice none 0 0)]) [(0, 1, (tg 8)), (1, 1, (tg 12))]), (some 13), none, 8, []⟩,
  ⟨CI.mem 3 (mCall 79 [(tg 13)]), (some 14), none, 9, []⟩,
  ⟨CI.pure (pFaddr 1 (tg 2)), (some 15), none, 10, []⟩,
  ⟨CI.load (tg 15) (mLoad1 (tg 15)), (some 16), none, 11, [9]⟩,
  ⟨CI.pure (pMov (tg 1)), (some 17), none, 12, []⟩,
  ⟨CI.pure (pSlice 1 (tg 16) (some (tg 17)) none none), (some 18), none, 13, []⟩,
  ⟨CI.pure (pFaddr 1 (tg 2)), (some 19), none, 14, []⟩,
  ⟨CI.load (tg 19) (mLoad1 (tg 19)), (some 20), none, 15, [9]⟩,
  ⟨CI.pure (pMov (tg 1)), (some 21), none, 16, []⟩,
  ⟨CI.pure (pSlice 1 (tg 20) none (some (tg 21)) none), (some 22), none, 17, []⟩,
  ⟨CI.mem 1 (mBslice 1 2 (rep 2 [(.slice none 0 0)]) [(0, 1, (tg 18)), (1, 1, (tg 22))]), (some 23), none, 18, []⟩,
  ⟨CI.mem 3 (mCall 80 [(tg 23)]), (some 24), none, 19, []⟩,
  ⟨CI.pure (pBuild [(.slice none 0 0), (.slice none 0 0)] [(0, 1, (tg 14)), (1, 1, (tg 24))]), (some 25), none, 20, []⟩,
  ⟨CI.mem 3 (mStore 2 (tg 4) (tg 25)), none, none, 21, []⟩]
@[simp] def o_w_turned_2_ap := das_rule (c := o_w_turned_2) rfl
def c_w_turned_1 : SC := sSeq (sAny o_w_turned_2) sRet
@[simp] def c_w_turned_1_ap := seq_rule (c := c_w_turned_1) rfl
def c_w_turned_2 : SC := sSeq (sReg (seqI o_w_turned_1)) c_w_turned_1
@[simp] def c_w_turned_2_ap := seq_rule (c := c_w_turned_2) rfl
def d_w_turned : DFn := ⟨c_w_turned_2, 26, [.cell 4 2]⟩
theorem d_w_turned_ok : fnOf Try.prog 58 = some d_w_turned := by kernel_rfl
def o_w_order_1 : List IS := [im 1 2 (mBox (tg 0)),
  im 1 3 (mBox (tg 1)),
  ip 4 (pMov (cv (.int .i64 0)))]
@[simp] def o_w_order_1_ap := ops_rule (c := o_w_order_1) rfl
def o_w_order_2 : List IS := [ip 7 (pFaddr 0 (tg 2)),
  il 8 (tg 7) (mLoad1 (tg 7)),
  ip 9 (pLen (tg 8)),
  ip 10 (pMov (cv (.int .i64 0)))]
@[simp] def o_w_order_2_ap := ops_rule (c := o_w_order_2) rfl
def o_w_order_3 : List IS := [ip 11 (pBin .lss (tg 10) (tg 9))]
@[simp] def o_w_order_3_ap := ops_rule (c := o_w_order_3) rfl
def c_w_order_1 : SC := sCond (tg 11) sSkip (sExit 0)
@[simp] def c_w_order_1_ap := cond_rule (c := c_w_order_1) rfl
def o_w_order_4 : List IS := [ip 12 (pMov (tg 10)),
  ip 5 (pMov (tg 12))]
@[simp] def o_w_order_4_ap := ops_rule (c := o_w_order_4) rfl
def o_w_order_5 : List DA := [⟨CI.pure (pFaddr 0 (tg 2)), (some 13), none, 0, []⟩,
  ⟨CI.load (tg 13) (mLoad1 (tg 13)), (some 14), none, 1, []⟩,
  ⟨CI.pure (pMov (tg 5)), (some 15), none, 2, []⟩,
  ⟨CI.pure (pIaddrS 2 (tg 14) (tg 15)), (some 16), none, 3, []⟩,
  ⟨CI.pure (pFaddr 0 (tg 16)), (some 17), none, 4, []⟩,
  ⟨CI.load (tg 17) (mLoad1 (tg 17)), (some 18), none, 5, []⟩,
  ⟨CI.pure (pFaddr 0 (tg 3)), (some 19), none, 6, []⟩,
  ⟨CI.load (tg 19) (mLoad1 (tg 19)), (some 20), none, 7, []⟩,
  ⟨CI.pure (pMov (tg 5)), (some 21), none, 8, []⟩,
  ⟨CI.pure (pIaddrS 2 (tg 20) (tg 21)), (some 22), none, 9, []⟩,
  ⟨CI.pure (pFaddr 0 (tg 22)), (some 23), none, 10, []⟩,
  ⟨CI.load (tg 23) (mLoad1 (tg 23)), (some 24), none, 11, []⟩,
  ⟨CI.mem 3 (mCall 82 [(tg 18), (tg 24)]), (some 25), none, 12, []⟩,
  ⟨CI.pure (pFaddr 0 (tg 2)), (some 26), none, 13, []⟩,
  ⟨CI.load (tg 26) (mLoad1 (tg 26)), (some 27), none, 14, [12]⟩,
  ⟨CI.pure (pMov (tg 5)), (some 28), none, 15, []⟩,
  ⟨CI.pure (pIaddrS 2 (tg 27) (tg 28)), (some 29), none, 16, []⟩,
  ⟨CI.pure (pFaddr 1 (tg 29)), (some 30), none, 17, []⟩,
  ⟨CI.load (tg 30) (mLoad1 (tg 30)), (some 31), none, 18, [12]⟩,
  ⟨CI.pure (pFaddr 0 (tg 3)), (some 32), none, 19, []⟩,
  ⟨CI.load (tg 32) (mLoad1 (tg 32)), (some 33), none, 20, [12]⟩,
  ⟨CI.pure (pMov (tg 5)), (some 34), none, 21, []⟩,
  ⟨CI.pure (pIaddrS 2 (tg 33) (tg 34)), (some 35), none, 22, []⟩,
  ⟨CI.pure (pFaddr 1 (tg 35)), (some 36), none, 23, []⟩,
  ⟨CI.load (tg 36) (mLoad1 (tg 36)), (some 37), none, 24, [12]⟩,
  ⟨CI.mem 3 (mCall 82 [(tg 31), (tg 37)]), (some 38), none, 25, []⟩,
  ⟨CI.pure (pFaddr 1 (tg 2)), (some 39), none, 26, []⟩,
  ⟨CI.load (tg 39) (mLoad1 (tg 39)), (some 40), none, 27, [12, 25]⟩,
  ⟨CI.pure (pMov (tg 5)), (some 41), none, 28, []⟩,
  ⟨CI.pure (pIaddrS 1 (tg 40) (tg 41)), (some 42), none, 29, []⟩,
  ⟨CI.load (tg 42) (mLoad1 (tg 42)), (some 43), none, 30, [12, 25]⟩,
  ⟨CI.pure (pFaddr 1 (tg 3)), (some 44), none, 31, []⟩,
  ⟨CI.load (tg 44) (mLoad1 (tg 44)), (some 45), none, 32, [12, 25]⟩,
  ⟨CI.pure (pMov (tg 5)), (some 46), none, 33, []⟩,
  ⟨CI.pure (pIaddrS 1 (tg 45) (tg 46)), (some 47), none, 34, []⟩,
  ⟨CI.load (tg 47) (mLoad1 (tg 47)), (some 48), none, 35, [12, 25]⟩,
  ⟨CI.mem 3 (mCall 82 [(tg 43), (tg 48)]), (some 49), none, 36, []⟩,
  ⟨CI.mem 1 (mBslice 1 3 (rep 3 [(.int .i64 0)]) [(0, 1, (tg 25)), (1, 1, (tg 38)), (2, 1, (tg 49))]), (some 50), none, 37, []⟩,
  ⟨CI.mem 3 (mCall 81 [(tg 50)]), (some 51), none, 38, []⟩,
  ⟨CI.pure (pMov (tg 51)), (some 6), none, 39, []⟩]
@[simp] def o_w_order_5_ap := das_rule (c := o_w_order_5) rfl
def o_w_order_6 : List IS := [ip 52 (pMov (tg 6)),
  ip 53 (pBin .neq (tg 52) (cv (.int .i64 0)))]
@[simp] def o_w_order_6_ap := ops_rule (c := o_w_order_6) rfl
def o_w_order_7 : List IS := [ip 54 (pMov (tg 6)),
  ip 4 (pMov (tg 54))]
@[simp] def o_w_order_7_ap := ops_rule (c := o_w_order_7) rfl
def c_w_order_2 : SC := sSeq (sReg (seqI o_w_order_7)) sRet
@[simp] def c_w_order_2_ap := seq_rule (c := c_w_order_2) rfl
def c_w_order_3 : SC := sCond (tg 53) c_w_order_2 sSkip
@[simp] def c_w_order_3_ap := cond_rule (c := c_w_order_3) rfl
def c_w_order_4 : SC := sSeq (sReg (seqI o_w_order_6)) c_w_order_3
@[simp] def c_w_order_4_ap := seq_rule (c := c_w_order_4) rfl
def c_w_order_5 : SC := sSeq (sAny o_w_order_5) c_w_order_4
@[simp] def c_w_order_5_ap := seq_rule (c := c_w_order_5) rfl
def c_w_order_6 : SC := sSeq (sReg (seqI o_w_order_4)) c_w_order_5
@[simp] def c_w_order_6_ap := seq_rule (c := c_w_order_6) rfl
def c_w_order_7 : SC := sBlock 1 c_w_order_6
@[simp] def c_w_order_7_ap := block_rule (c := c_w_order_7) rfl
def o_w_order_8 : List IS := [ip 55 (pBin .add (tg 10) (cv (.int .i64 1))),
  ip 10 (pMov (tg 55))]
@[simp] def o_w_order_8_ap := ops_rule (c := o_w_order_8) rfl
def c_w_order_8 : SC := sSeq c_w_order_7 (sReg (seqI o_w_order_8))
@[simp] def c_w_order_8_ap := seq_rule (c := c_w_order_8) rfl
def c_w_order_9 : SC := sSeq c_w_order_1 c_w_order_8
@[simp] def c_w_order_9_ap := seq_rule (c := c_w_order_9) rfl
def c_w_order_10 : SC := sSeq (sReg (seqI o_w_order_3)) c_w_order_9
@[simp] def c_w_order_10_ap := seq_rule (c := c_w_order_10) rfl
def c_w_order_11 : SC := sLoop c_w_order_10
def c_w_order_12 : SC := sBlock 0 c_w_order_11
@[simp] def c_w_order_12_ap := block_rule (c := c_w_order_12) rfl
def c_w_order_13 : SC := sSeq (sReg (seqI o_w_order_2)) c_w_order_12
@[simp] def c_w_order_13_ap := seq_rule (c := c_w_order_13) rfl
def o_w_order_9 : List IS := [ip 4 (pMov (cv (.int .i64 0)))]
@[simp] def o_w_order_9_ap := ops_rule (c := o_w_order_9) rfl
def c_w_order_14 : SC := sSeq (sReg (seqI o_w_order_9)) sRet
@[simp] def c_w_order_14_ap := seq_rule (c := c_w_order_14) rfl
def c_w_order_15 : SC := sSeq c_w_order_13 c_w_order_14
@[simp] def c_w_order_15_ap := seq_rule (c := c_w_order_15) rfl
def c_w_order_16 : SC := sSeq (sReg (seqI o_w_order_1)) c_w_order_15
@[simp] def c_w_order_16_ap := seq_rule (c := c_w_order_16) rfl
def d_w_order : DFn := ⟨c_w_order_16, 56, [.t 4]⟩
theorem d_w_order_ok : fnOf Try.prog 59 = some d_w_order := by kernel_rfl
def o_r_Turned_1 : List IS := [im 1 2 (mBox (tg 0)),
  im 1 4 (mAlloc [(.slice none 0 0), (.slice none 0 0)])]
@[simp] def o_r_Turned_1_ap := ops_rule (c := o_r_Turned_1) rfl
def o_r_Turned_2 : List IS := [im 1 5 (mAlloc [(.slice none 0 0), (.slice none 0 0)])]
@[simp] def o_r_Turned_2_ap := ops_rule (c := o_r_Turned_2) rfl
def o_r_Turned_3 : List IS := [ip 8 (pFaddr 0 (tg 2)),
  il 9 (tg 8) (mLoad1 (tg 8)),
  ip 10 (pLen (tg 9)),
  ip 6 (pMov (tg 10))]
@[simp] def o_r_Turned_3_ap := ops_rule (c := o_r_Turned_3) rfl
def o_r_Turned_4 : List IS := [ip 7 (pMov (cv (.int .i64 0)))]
@[simp] def o_r_Turned_4_ap := ops_rule (c := o_r_Turned_4) rfl
def o_r_Turned_5 : List IS := [ip 11 (pMov (tg 7)),
  ip 12 (pMov (tg 6)),
  ip 13 (pBin .lss (tg 11) (tg 12))]
@[simp] def o_r_Turned_5_ap := ops_rule (c := o_r_Turned_5) rfl
def c_r_Turned_1 : SC := sCond (tg 13) sSkip (sExit 0)
@[simp] def c_r_Turned_1_ap := cond_rule (c := c_r_Turned_1) rfl
def c_r_Turned_2 : SC := sSeq (sReg (seqI o_r_Turned_5)) c_r_Turned_1
@[simp] def c_r_Turned_2_ap := seq_rule (c := c_r_Turned_2) rfl
def o_r_Turned_6 : List DA := [⟨CI.pure (pFaddr 0 (tg 5)), (some 16), none, 0, []⟩,
  ⟨CI.load (tg 16) (mLoad1 (tg 16)), (some 17), none, 1, []⟩,
  ⟨CI.pure (pFaddr 0 (tg 2)), (some 18), none, 2, []⟩,
  ⟨CI.load (tg 18) (mLoad1 (tg 18)), (some 19), none, 3, []⟩,
  ⟨CI.pure (pMov (tg 1)), (some 20), none, 4, []⟩,
  ⟨CI.pure (pMov (tg 7)), (some 21), none, 5, []⟩,
  ⟨CI.pure (pBin .add (tg 20) (tg 21)), (some 22), none, 6, []⟩,
  ⟨CI.pure (pMov (tg 6)), (some 23), none, 7, []⟩,
  ⟨CI.pure (pBin .rem (tg 22) (tg 23)), (some 24), none, 8, []⟩,
  ⟨CI.pure (pIaddrS 2 (tg 19) (tg 24)), (some 25), none, 9, []⟩,
  ⟨CI.load (tg 25) (mLoadN 2 (tg 25)), (some 26), none, 10, []⟩,
  ⟨CI.mem 1 (mBslice 2 1 (rep 1 [(.int .i64 0), (.int .i64 0)]) [(0, 2, (tg 26))]), (some 27), none, 11, []⟩,
  ⟨CI.mem 3 (mAppend 2 16 (tg 17) (tg 27)), (some 28), none, 12, []⟩,
  ⟨CI.pure (pFaddr 0 (tg 5)), (some 29), none, 13, []⟩,
  ⟨CI.mem 3 (mStore 1 (tg 29) (tg 28)), none, none, 14, []⟩]
@[simp] def o_r_Turned_6_ap := das_rule (c := o_r_Turned_6) rfl
def o_r_Turned_7 : List DA := [⟨CI.pure (pFaddr 1 (tg 5)), (some 30), none, 0, []⟩,
  ⟨CI.load (tg 30) (mLoad1 (tg 30)), (some 31), none, 1, []⟩,
  ⟨CI.pure (pFaddr 1 (tg 2)), (some 32), none, 2, []⟩,
  ⟨CI.load (tg 32) (mLoad1 (tg 32)), (some 33), none, 3, []⟩,
  ⟨CI.pure (pMov (tg 1)), (some 34), none, 4, []⟩,
  ⟨CI.pure (pMov (tg 7)), (some 35), none, 5, []⟩,
  ⟨CI.pure (pBin .add (tg 34) (tg 35)), (some 36), none, 6, []⟩,
  ⟨CI.pure (pMov (tg 6)), (some 37), none, 7, []⟩,
  ⟨CI.pure (pBin .rem (tg 36) (tg 37)), (some 38), none, 8, []⟩,
  ⟨CI.pure (pIaddrS 1 (tg 33) (tg 38)), (some 39), none, 9, []⟩,
  ⟨CI.load (tg 39) (mLoad1 (tg 39)), (some 40), none, 10, []⟩,
  ⟨CI.mem 1 (mBslice 1 1 (rep 1 [(.int .i64 0)]) [(0, 1, (tg 40))]), (some 41), none, 11, []⟩,
  ⟨CI.mem 3 (mAppend 1 8 (tg 31) (tg 41)), (some 42), none, 12, []⟩,
  ⟨CI.pure (pFaddr 1 (tg 5)), (some 43), none, 13, []⟩,
  ⟨CI.mem 3 (mStore 1 (tg 43) (tg 42)), none, none, 14, []⟩]
@[simp] def o_r_Turned_7_ap := das_rule (c := o_r_Turned_7) rfl
def c_r_Turned_3 : SC := sSeq (sAny o_r_Turned_6) (sAny o_r_Turned_7)
@[simp] def c_r_Turned_3_ap := seq_rule (c := c_r_Turned_3) rfl
def c_r_Turned_4 : SC := sBlock 1 c_r_Turned_3
@[simp] def c_r_Turned_4_ap := block_rule (c := c_r_Turned_4) rfl
def o_r_Turned_8 : List IS := [ip 14 (pMov (tg 7)),
  ip 15 (pBin .add (tg 14) (cv (.int .i64 1))),
  ip 7 (pMov (tg 15))]
@[simp] def o_r_Turned_8_ap := ops_rule (c := o_r_Turned_8) rfl
def c_r_Turned_5 : SC := sSeq c_r_Turned_4 (sReg (seqI o_r_Turned_8))
@[simp] def c_r_Turned_5_ap := seq_rule (c := c_r_Turned_5) rfl
def c_r_Turned_6 : SC := sSeq c_r_Turned_2 c_r_Turned_5
@[simp] def c_r_Turned_6_ap := seq_rule (c := c_r_Turned_6) rfl
def c_r_Turned_7 : SC := sLoop c_r_Turned_6
def c_r_Turned_8 : SC := sBlock 0 c_r_Turned_7
@[simp] def c_r_Turned_8_ap := block_rule (c := c_r_Turned_8) rfl
def c_r_Turned_9 : SC := sSeq (sReg (seqI o_r_Turned_4)) c_r_Turned_8
@[simp] def c_r_Turned_9_ap := seq_rule (c := c_r_Turned_9) rfl
def o_r_Turned_9 : List IS := [il 44 (tg 5) (mLoadN 2 (tg 5)),
  im0 3 (mStore 2 (tg 4) (tg 44))]
@[simp] def o_r_Turned_9_ap := ops_rule (c := o_r_Turned_9) rfl
def c_r_Turned_10 : SC := sSeq (sReg (seqI o_r_Turned_9)) sRet
@[simp] def c_r_Turned_10_ap := seq_rule (c := c_r_Turned_10) rfl
def c_r_Turned_11 : SC := sSeq c_r_Turned_9 c_r_Turned_10
@[simp] def c_r_Turned_11_ap := seq_rule (c := c_r_Turned_11) rfl
def c_r_Turned_12 : SC := sSeq (sReg (seqI o_r_Turned_3)) c_r_Turned_11
@[simp] def c_r_Turned_12_ap := seq_rule (c := c_r_Turned_12) rfl
def c_r_Turned_13 : SC := sSeq (sReg (seqI o_r_Turned_2)) c_r_Turned_12
@[simp] def c_r_Turned_13_ap := seq_rule (c := c_r_Turned_13) rfl
def c_r_Turned_14 : SC := sSeq (sReg (seqI o_r_Turned_1)) c_r_Turned_13
@[simp] def c_r_Turned_14_ap := seq_rule (c := c_r_Turned_14) rfl
def d_r_Turned : DFn := ⟨c_r_Turned_14, 45, [.cell 4 2]⟩
theorem d_r_Turned_ok : fnOf Try.prog 60 = some d_r_Turned := by kernel_rfl
def o_r_Below_1 : List IS := [im 1 2 (mBox (tg 0)),
  im 1 3 (mBox (tg 1)),
  ip 4 (pMov (cv (.bool false)))]
@[simp] def o_r_Below_1_ap := ops_rule (c := o_r_Below_1) rfl
def o_r_Below_2 : List IS := [ip 5 (pMov (cv (.int .i64 0)))]
@[simp] def o_r_Below_2_ap := ops_rule (c := o_r_Below_2) rfl
def o_r_Below_3 : List IS := [ip 6 (pMov (tg 5)),
  ip 7 (pFaddr 0 (tg 2)),
  il 8 (tg 7) (mLoad1 (tg 7)),
  ip 9 (pLen (tg 8)),
  ip 10 (pBin .lss (tg 6) (tg 9))]
@[simp] def o_r_Below_3_ap := ops_rule (c := o_r_Below_3) rfl
def c_r_Below_1 : SC := sCond (tg 10) sSkip (sExit 0)
@[simp] def c_r_Below_1_ap := cond_rule (c := c_r_Below_1) rfl
def c_r_Below_2 : SC := sSeq (sReg (seqI o_r_Below_3)) c_r_Below_1
@[simp] def c_r_Below_2_ap := seq_rule (c := c_r_Below_2) rfl
def o_r_Below_4 : List DA := [⟨CI.pure (pFaddr 0 (tg 2)), (some 13), none, 0, []⟩,
  ⟨CI.load (tg 13) (mLoad1 (tg 13)), (some 14), none, 1, []⟩,
  ⟨CI.pure (pMov (tg 5)), (some 15), none, 2, []⟩,
  ⟨CI.pure (pIaddrS 2 (tg 14) (tg 15)), (some 16), none, 3, []⟩,
  ⟨CI.pure (pFaddr 0 (tg 16)), (some 17), none, 4, []⟩,
  ⟨CI.load (tg 17) (mLoad1 (tg 17)), (some 18), none, 5, []⟩,
  ⟨CI.pure (pFaddr 0 (tg 3)), (some 19), none, 6, []⟩,
  ⟨CI.load (tg 19) (mLoad1 (tg 19)), (some 20), none, 7, []⟩,
  ⟨CI.pure (pMov (tg 5)), (some 21), none, 8, []⟩,
  ⟨CI.pure (pIaddrS 2 (tg 20) (tg 21)), (some 22), none, 9, []⟩,
  ⟨CI.pure (pFaddr 0 (tg 22)), (some 23), none, 10, []⟩,
  ⟨CI.load (tg 23) (mLoad1 (tg 23)), (some 24), none, 11, []⟩,
  ⟨CI.pure (pBin .neq (tg 18) (tg 24)), (some 25), none, 12, []⟩]
@[simp] def o_r_Below_4_ap := das_rule (c := o_r_Below_4) rfl
def o_r_Below_5 : List DA := [⟨CI.pure (pFaddr 0 (tg 2)), (some 26), none, 0, []⟩,
  ⟨CI.load (tg 26) (mLoad1 (tg 26)), (some 27), none, 1, []⟩,
  ⟨CI.pure (pMov (tg 5)), (some 28), none, 2, []⟩,
  ⟨CI.pure (pIaddrS 2 (tg 27) (tg 28)), (some 29), none, 3, []⟩,
  ⟨CI.pure (pFaddr 0 (tg 29)), (some 30), none, 4, []⟩,
  ⟨CI.load (tg 30) (mLoad1 (tg 30)), (some 31), none, 5, []⟩,
  ⟨CI.pure (pFaddr 0 (tg 3)), (some 32), none, 6, []⟩,
  ⟨CI.load (tg 32) (mLoad1 (tg 32)), (some 33), none, 7, []⟩,
  ⟨CI.pure (pMov (tg 5)), (some 34), none, 8, []⟩,
  ⟨CI.pure (pIaddrS 2 (tg 33) (tg 34)), (some 35), none, 9, []⟩,
  ⟨CI.pure (pFaddr 0 (tg 35)), (some 36), none, 10, []⟩,
  ⟨CI.load (tg 36) (mLoad1 (tg 36)), (some 37), none, 11, []⟩,
  ⟨CI.pure (pBin .lss (tg 31) (tg 37)), (some 38), none, 12, []⟩,
  ⟨CI.pure (pMov (tg 38)), (some 4), none, 13, []⟩]
@[simp] def o_r_Below_5_ap := das_rule (c := o_r_Below_5) rfl
def c_r_Below_3 : SC := sSeq (sAny o_r_Below_5) sRet
@[simp] def c_r_Below_3_ap := seq_rule (c := c_r_Below_3) rfl
def c_r_Below_4 : SC := sCond (tg 25) c_r_Below_3 sSkip
@[simp] def c_r_Below_4_ap := cond_rule (c := c_r_Below_4) rfl
def c_r_Below_5 : SC := sSeq (sAny o_r_Below_4) c_r_Below_4
@[simp] def c_r_Below_5_ap := seq_rule (c := c_r_Below_5) rfl
def o_r_Below_6 : List DA := [⟨CI.pure (pFaddr 0 (tg 2)), (some 39), none, 0, []⟩,
  ⟨CI.load (tg 39) (mLoad1 (tg 39)), (some 40), none, 1, []⟩,
  ⟨CI.pure (pMov (tg 5)), (some 41), none, 2, []⟩,
  ⟨CI.pure (pIaddrS 2 (tg 40) (tg 41)), (some 42), none, 3, []⟩,
  ⟨CI.pure (pFaddr 1 (tg 42)), (some 43), none, 4, []⟩,
  ⟨CI.load (tg 43) (mLoad1 (tg 43)), (some 44), none, 5, []⟩,
  ⟨CI.pure (pFaddr 0 (tg 3)), (some 45), none, 6, []⟩,
  ⟨CI.load (tg 45) (mLoad1 (tg 45)), (some 46), none, 7, []⟩,
  ⟨CI.pure (pMov (tg 5)), (some 47), none, 8, []⟩,
  ⟨CI.pure (pIaddrS 2 (tg 46) (tg 47)), (some 48), none, 9, []⟩,
  ⟨CI.pure (pFaddr 1 (tg 48)), (some 49), none, 10, []⟩,
  ⟨CI.load (tg 49) (mLoad1 (tg 49)), (some 50), none, 11, []⟩,
  ⟨CI.pure (pBin .neq (tg 44) (tg 50)), (some 51), none, 12, []⟩]
@[simp] def o_r_Below_6_ap := das_rule (c := o_r_Below_6) rfl
def o_r_Below_7 : List DA := [⟨CI.pure (pFaddr 0 (tg 2)), (some 52), none, 0, []⟩,
  ⟨CI.load (tg 52) (mLoad1 (tg 52)), (some 53), none, 1, []⟩,
  ⟨CI.pure (pMov (tg 5)), (some 54), none, 2, []⟩,
  ⟨CI.pure (pIaddrS 2 (tg 53) (tg 54)), (some 55), none, 3, []⟩,
  ⟨CI.pure (pFaddr 1 (tg 55)), (some 56), none, 4, []⟩,
  ⟨CI.load (tg 56) (mLoad1 (tg 56)), (some 57), none, 5, []⟩,
  ⟨CI.pure (pFaddr 0 (tg 3)), (some 58), none, 6, []⟩,
  ⟨CI.load (tg 58) (mLoad1 (tg 58)), (some 59), none, 7, []⟩,
  ⟨CI.pure (pMov (tg 5)), (some 60), none, 8, []⟩,
  ⟨CI.pure (pIaddrS 2 (tg 59) (tg 60)), (some 61), none, 9, []⟩,
  ⟨CI.pure (pFaddr 1 (tg 61)), (some 62), none, 10, []⟩,
  ⟨CI.load (tg 62) (mLoad1 (tg 62)), (some 63), none, 11, []⟩,
  ⟨CI.pure (pBin .lss (tg 57) (tg 63)), (some 64), none, 12, []⟩,
  ⟨CI.pure (pMov (tg 64)), (some 4), none, 13, []⟩]
@[simp] def o_r_Below_7_ap := das_rule (c := o_r_Below_7) rfl
def c_r_Below_6 : SC := sSeq (sAny o_r_Below_7) sRet
@[simp] def c_r_Below_6_ap := seq_rule (c := c_r_Below_6) rfl
def c_r_Below_7 : SC := sCond (tg 51) c_r_Below_6 sSkip
@[simp] def c_r_Below_7_ap := cond_rule (c := c_r_Below_7) rfl
def c_r_Below_8 : SC := sSeq (sAny o_r_Below_6) c_r_Below_7
@[simp] def c_r_Below_8_ap := seq_rule (c := c_r_Below_8) rfl
def o_r_Below_8 : List DA := [⟨CI.pure (pFaddr 1 (tg 2)), (some 65), none, 0, []⟩,
  ⟨CI.load (tg 65) (mLoad1 (tg 65)), (some 66), none, 1, []⟩,
  ⟨CI.pure (pMov (tg 5)), (some 67), none, 2, []⟩,
  ⟨CI.pure (pIaddrS 1 (tg 66) (tg 67)), (some 68), none, 3, []⟩,
  ⟨CI.load (tg 68) (mLoad1 (tg 68)), (some 69), none, 4, []⟩,
  ⟨CI.pure (pFaddr 1 (tg 3)), (some 70), none, 5, []⟩,
  ⟨CI.load (tg 70) (mLoad1 (tg 70)), (some 71), none, 6, []⟩,
  ⟨CI.pure (pMov (tg 5)), (some 72), none, 7, []⟩,
  ⟨CI.pure (pIaddrS 1 (tg 71) (tg 72)), (some 73), none, 8, []⟩,
  ⟨CI.load (tg 73) (mLoad1 (tg 73)), (some 74), none, 9, []⟩,
  ⟨CI.pure (pBin .neq (tg 69) (tg 74)), (some 75), none, 10, []⟩]
@[simp] def o_r_Below_8_ap := das_rule (c := o_r_Below_8) rfl
def o_r_Below_9 : List DA := [⟨CI.pure (pFaddr 1 (tg 2)), (some 76), none, 0, []⟩,
  ⟨CI.load (tg 76) (mLoad1 (tg 76)), (some 77), none, 1, []⟩,
  ⟨CI.pure (pMov (tg 5)), (some 78), none, 2, []⟩,
  ⟨CI.pure (pIaddrS 1 (tg 77) (tg 78)), (some 79), none, 3, []⟩,
  ⟨CI.load (tg 79) (mLoad1 (tg 79)), (some 80), none, 4, []⟩,
  ⟨CI.pure (pFaddr 1 (tg 3)), (some 81), none, 5, []⟩,
  ⟨CI.load (tg 81) (mLoad1 (tg 81)), (some 82), none, 6, []⟩,
  ⟨CI.pure (pMov (tg 5)), (some 83), none, 7, []⟩,
  ⟨CI.pure (pIaddrS 1 (tg 82) (tg 83)), (some 84), none, 8, []⟩,
  ⟨CI.load (tg 84) (mLoad1 (tg 84)), (some 85), none, 9, []⟩,
  ⟨CI.pure (pBin .lss (tg 80) (tg 85)), (some 86), none, 10, []⟩,
  ⟨CI.pure (pMov (tg 86)), (some 4), none, 11, []⟩]
@[simp] def o_r_Below_9_ap := das_rule (c := o_r_Below_9) rfl
def c_r_Below_9 : SC := sSeq (sAny o_r_Below_9) sRet
@[simp] def c_r_Below_9_ap := seq_rule (c := c_r_Below_9) rfl
def c_r_Below_10 : SC := sCond (tg 75) c_r_Below_9 sSkip
@[simp] def c_r_Below_10_ap := cond_rule (c := c_r_Below_10) rfl
def c_r_Below_11 : SC := sSeq (sAny o_r_Below_8) c_r_Below_10
@[simp] def c_r_Below_11_ap := seq_rule (c := c_r_Below_11) rfl
def c_r_Below_12 : SC := sSeq c_r_Below_8 c_r_Below_11
@[simp] def c_r_Below_12_ap := seq_rule (c := c_r_Below_12) rfl
def c_r_Below_13 : SC := sSeq c_r_Below_5 c_r_Below_12
@[simp] def c_r_Below_13_ap := seq_rule (c := c_r_Below_13) rfl
def c_r_Below_14 : SC := sBlock 1 c_r_Below_13
@[simp] def c_r_Below_14_ap := block_rule (c := c_r_Below_14) rfl
def o_r_Below_10 : List IS := [ip 11 (pMov (tg 5)),
  ip 12 (pBin .add (tg 11) (cv (.int .i64 1))),
  ip 5 (pMov (tg 12))]
@[simp] def o_r_Below_10_ap := ops_rule (c := o_r_Below_10) rfl
def c_r_Below_15 : SC := sSeq c_r_Below_14 (sReg (seqI o_r_Below_10))
@[simp] def c_r_Below_15_ap := seq_rule (c := c_r_Below_15) rfl
def c_r_Below_16 : SC := sSeq c_r_Below_2 c_r_Below_15
@[simp] def c_r_Below_16_ap := seq_rule (c := c_r_Below_16) rfl
def c_r_Below_17 : SC := sLoop c_r_Below_16
def c_r_Below_18 : SC := sBlock 0 c_r_Below_17
@[simp] def c_r_Below_18_ap := block_rule (c := c_r_Below_18) rfl
def c_r_Below_19 : SC := sSeq (sReg (seqI o_r_Below_2)) c_r_Below_18
@[simp] def c_r_Below_19_ap := seq_rule (c := c_r_Below_19) rfl
def o_r_Below_11 : List IS := [ip 4 (pMov (cv (.bool false)))]
@[simp] def o_r_Below_11_ap := ops_rule (c := o_r_Below_11) rfl
def c_r_Below_20 : SC := sSeq (sReg (seqI o_r_Below_11)) sRet
@[simp] def c_r_Below_20_ap := seq_rule (c := c_r_Below_20) rfl
def c_r_Below_21 : SC := sSeq c_r_Below_19 c_r_Below_20
@[simp] def c_r_Below_21_ap := seq_rule (c := c_r_Below_21) rfl
def c_r_Below_22 : SC := sSeq (sReg (seqI o_r_Below_1)) c_r_Below_21
@[simp] def c_r_Below_22_ap := seq_rule (c := c_r_Below_22) rfl
def d_r_Below : DFn := ⟨c_r_Below_22, 87, [.t 4]⟩
theorem d_r_Below_ok : fnOf Try.prog 61 = some d_r_Below := by kernel_rfl
def o_s_Repeat_int_int_1 : List IS := [ip 4 (pMov (cv (.slice none 0 0)))]
@[simp] def o_s_Repeat_int_int_1_ap := ops_rule (c := o_s_Repeat_int_int_1) rfl
def o_s_Repeat_int_int_2 : List IS := [ip 9 (pMov (tg 1)),
  ip 10 (pBin .lss (tg 9) (cv (.int .i64 0)))]
@[simp] def o_s_Repeat_int_int_2_ap := ops_rule (c := o_s_Repeat_int_int_2) rfl
def o_s_Repeat_int_int_3 : List IS := [ip 11 (pMkif 9 (cv (.string ⟨#[99, 97, 110, 110, 111, 116, 32, 98, 101, 32, 110, 101, 103, 97, 116, 105, 118, 101]⟩))),
  runI CI.bad none]
@[simp] def o_s_Repeat_int_int_3_ap := ops_rule (c := o_s_Repeat_int_int_3) rfl
def c_s_Repeat_int_int_1 : SC := sCond (tg 10) (sReg (seqI o_s_Repeat_int_int_3)) sSkip
@[simp] def c_s_Repeat_int_int_1_ap := cond_rule (c := c_s_Repeat_int_int_1) rfl
def c_s_Repeat_int_int_2 : SC := sSeq (sReg (seqI o_s_Repeat_int_int_2)) c_s_Repeat_int_int_1
@[simp] def c_s_Repeat_int_int_2_ap := seq_rule (c := c_s_Repeat_int_int_2) rfl
def o_s_Repeat_int_int_4 : List IS := [ip 13 (pMov (tg 0)),
  ip 14 (pLen (tg 13)),
  ip 15 (pConvI .u64 (tg 14)),
  ip 16 (pMov (tg 1)),
  ip 17 (pConvI .u64 (tg 16)),
  im 3 18 (mCall 83 [(tg 15), (tg 17)]),
  ip 12 (pMov (tg 18)),
  ip 19 (pExtract (tg 12) 0),
  ip 20 (pExtract (tg 12) 1),
  ip 5 (pMov (tg 19)),
  ip 6 (pMov (tg 20))]
@[simp] def o_s_Repeat_int_int_4_ap := ops_rule (c := o_s_Repeat_int_int_4) rfl
def o_s_Repeat_int_int_5 : List IS := [ip 21 (pMov (tg 5)),
  ip 22 (pBin .gtr (tg 21) (cv (.int .u64 0))),
  ip 23 (pMov (tg 22)),
  gd 23 false (some 24) (ip 24 (pMov (tg 6))),
  gd 23 false (some 25) (ip 25 (pBin .gtr (tg 24) (cv (.int .u64 9223372036854775807)))),
  ip 26 (pPick (tg 23) (cv (.bool true)) (tg 25))]
@[simp] def o_s_Repeat_int_int_5_ap := ops_rule (c := o_s_Repeat_int_int_5) rfl
def o_s_Repeat_int_int_6 : List IS := [ip 27 (pMkif 9 (cv (.string ⟨#[116, 104, 101, 32, 114, 101, 115, 117, 108, 116, 32, 111, 102, 32, 40, 108, 101, 110, 40, 120, 41, 32, 42, 32, 99, 111, 117, 110, 116, 41, 32, 111, 118, 101, 114, 102, 108, 111, 119, 115]⟩))),
  runI CI.bad none]
@[simp] def o_s_Repeat_int_int_6_ap := ops_rule (c := o_s_Repeat_int_int_6) rfl
def c_s_Repeat_int_int_3 : SC := sCond (tg 26) (sReg (seqI o_s_Repeat_int_int_6)) sSkip
@[simp] def c_s_Repeat_int_int_3_ap := cond_rule (c := c_s_Repeat_int_int_3) rfl
def c_s_Repeat_int_int_4 : SC := sSeq (sReg (seqI o_s_Repeat_int_int_5)) c_s_Repeat_int_int_3
@[simp] def c_s_Repeat_int_int_4_ap := seq_rule (c := c_s_Repeat_int_int_4) rfl
def o_s_Repeat_int_int_7 : List IS := [ip 28 (pMov (tg 6)),
  ip 29 (pConvI .i64 (tg 28)),
  im 1 30 (mMkslice 1 8 [(.int .i64 0)] (tg 29) (tg 29)),
  ip 7 (pMov (tg 30))]
@[simp] def o_s_Repeat_int_int_7_ap := ops_rule (c := o_s_Repeat_int_int_7) rfl
def o_s_Repeat_int_int_8 : List IS := [ip 31 (pMov (tg 7)),
  ip 32 (pMov (tg 0)),
  im 3 33 (mCopy 1 (tg 31) (tg 32)),
  ip 8 (pMov (tg 33))]
@[simp] def o_s_Repeat_int_int_8_ap := ops_rule (c := o_s_Repeat_int_int_8) rfl
def o_s_Repeat_int_int_9 : List IS := [ip 34 (pMov (tg 8)),
  ip 35 (pMov (tg 7)),
  ip 36 (pLen (tg 35)),
  ip 37 (pBin .lss (tg 34) (tg 36))]
@[simp] def o_s_Repeat_int_int_9_ap := ops_rule (c := o_s_Repeat_int_int_9) rfl
def c_s_Repeat_int_int_5 : SC := sCond (tg 37) sSkip (sExit 0)
@[simp] def c_s_Repeat_int_int_5_ap := cond_rule (c := c_s_Repeat_int_int_5) rfl
def c_s_Repeat_int_int_6 : SC := sSeq (sReg (seqI o_s_Repeat_int_int_9)) c_s_Repeat_int_int_5
@[simp] def c_s_Repeat_int_int_6_ap := seq_rule (c := c_s_Repeat_int_int_6) rfl
def o_s_Repeat_int_int_10 : List DA := [⟨CI.pure (pMov (tg 8)), (some 38), none, 0, []⟩,
  ⟨CI.pure (pMov (tg 7)), (some 39), none, 1, []⟩,
  ⟨CI.pure (pMov (tg 8)), (some 40), none, 2, []⟩,
  ⟨CI.pure (pSlice 1 (tg 39) (some (tg 40)) none none), (some 41), none, 3, []⟩,
  ⟨CI.pure (pMov (tg 7)), (some 42), none, 4, []⟩,
  ⟨CI.pure (pMov (tg 8)), (some 43), none, 5, []⟩,
  ⟨CI.pure (pSlice 1 (tg 42) none (some (tg 43)) none), (some 44), none, 6, []⟩,
  ⟨CI.mem 3 (mCopy 1 (tg 41) (tg 44)), (some 45), none, 7, []⟩,
  ⟨CI.pure (pBin .add (tg 38) (tg 45)), (some 46), none, 8, []⟩,
  ⟨CI.pure (pMov (tg 46)), (some 8), none, 9, []⟩]
@[simp] def o_s_Repeat_int_int_10_ap := das_rule (c := o_s_Repeat_int_int_10) rfl
def c_s_Repeat_int_int_7 : SC := sBlock 1 (sAny o_s_Repeat_int_int_10)
@[simp] def c_s_Repeat_int_int_7_ap := block_rule (c := c_s_Repeat_int_int_7) rfl
def c_s_Repeat_int_int_8 : SC := sSeq c_s_Repeat_int_int_6 c_s_Repeat_int_int_7
@[simp] def c_s_Repeat_int_int_8_ap := seq_rule (c := c_s_Repeat_int_int_8) rfl
def c_s_Repeat_int_int_9 : SC := sLoop c_s_Repeat_int_int_8
def c_s_Repeat_int_int_10 : SC := sBlock 0 c_s_Repeat_int_int_9
@[simp] def c_s_Repeat_int_int_10_ap := block_rule (c := c_s_Repeat_int_int_10) rfl
def o_s_Repeat_int_int_11 : List IS := [ip 47 (pMov (tg 7)),
  ip 4 (pMov (tg 47))]
@[simp] def o_s_Repeat_int_int_11_ap := ops_rule (c := o_s_Repeat_int_int_11) rfl
def c_s_Repeat_int_int_11 : SC := sSeq (sReg (seqI o_s_Repeat_int_int_11)) sRet
@[simp] def c_s_Repeat_int_int_11_ap := seq_rule (c := c_s_Repeat_int_int_11) rfl
def c_s_Repeat_int_int_12 : SC := sSeq c_s_Repeat_int_int_10 c_s_Repeat_int_int_11
@[simp] def c_s_Repeat_int_int_12_ap := seq_rule (c := c_s_Repeat_int_int_12) rfl
def c_s_Repeat_int_int_13 : SC := sSeq (sReg (seqI o_s_Repeat_int_int_8)) c_s_Repeat_int_int_12
@[simp] def c_s_Repeat_int_int_13_ap := seq_rule (c := c_s_Repeat_int_int_13) rfl
def c_s_Repeat_int_int_14 : SC := sSeq (sReg (seqI o_s_Repeat_int_int_7)) c_s_Repeat_int_int_13
@[simp] def c_s_Repeat_int_int_14_ap := seq_rule (c := c_s_Repeat_int_int_14) rfl
def c_s_Repeat_int_int_15 : SC := sSeq c_s_Repeat_int_int_4 c_s_Repeat_int_int_14
@[simp] def c_s_Repeat_int_int_15_ap := seq_rule (c := c_s_Repeat_int_int_15) rfl
def c_s_Repeat_int_int_16 : SC := sSeq (sReg (seqI o_s_Repeat_int_int_4)) c_s_Repeat_int_int_15
@[simp] def c_s_Repeat_int_int_16_ap := seq_rule (c := c_s_Repeat_int_int_16) rfl
def c_s_Repeat_int_int_17 : SC := sSeq c_s_Repeat_int_int_2 c_s_Repeat_int_int_16
@[simp] def c_s_Repeat_int_int_17_ap := seq_rule (c := c_s_Repeat_int_int_17) rfl
def c_s_Repeat_int_int_18 : SC := sSeq (sReg (seqI o_s_Repeat_int_int_1)) c_s_Repeat_int_int_17
@[simp] def c_s_Repeat_int_int_18_ap := seq_rule (c := c_s_Repeat_int_int_18) rfl
def d_s_Repeat_int_int : DFn := ⟨c_s_Repeat_int_int_18, 48, [.t 4]⟩
theorem d_s_Repeat_int_int_ok : fnOf Try.prog 62 = some d_s_Repeat_int_int := by kernel_rfl
def o_w_All_1_1 : List IS := [ip 9 (pMov (tg 0)),
  il 10 (tg 1) (mLoad1 (tg 1)),
  ip 11 (pBin .eql (tg 9) (tg 10))]
@[simp] def o_w_All_1_1_ap := ops_rule (c := o_w_All_1_1) rfl
def o_w_All_1_2 : List IS := [il 13 (tg 2) (mLoadN 2 (tg 2)),
  im 3 14 (mCall 22 [(tg 13)]),
  ip 12 (pMov (tg 14)),
  ip 15 (pExtract (tg 12) 0),
  ip 16 (pExtract (tg 12) 1),
  ip 6 (pMov (tg 15)),
  ip 7 (pMov (tg 16))]
@[simp] def o_w_All_1_2_ap := ops_rule (c := o_w_All_1_2) rfl
def o_w_All_1_3 : List DA := [⟨CI.pure (pMov (tg 7)), (some 17), none, 0, []⟩,
  ⟨CI.pure (pBin .eql (tg 17) (cv (.int .i64 0))), (some 18), none, 1, []⟩,
  ⟨CI.pure (pMov (tg 18)), (some 19), none, 2, []⟩,
  ⟨CI.load (tg 2) (mLoadN 2 (tg 2)), (some 20), (some (19, true)), 3, []⟩,
  ⟨CI.mem 3 (mCall 28 [(tg 20)]), (some 21), (some (19, true)), 4, []⟩,
  ⟨CI.load (tg 2) (mLoadN 2 (tg 2)), (some 22), (some (19, true)), 5, [4]⟩,
  ⟨CI.mem 3 (mCall 59 [(tg 21), (tg 22)]), (some 23), (some (19, true)), 6, []⟩,
  ⟨CI.pure (pBin .eql (tg 23) (cv (.int .i64 0))), (some 24), (some (19, true)), 7, []⟩,
  ⟨CI.pure (pPick (tg 19) (tg 24) (cv (.bool false))), (some 25), none, 8, []⟩]
@[simp] def o_w_All_1_3_ap := das_rule (c := o_w_All_1_3) rfl
def o_w_All_1_4 : List DA := [⟨CI.load (tg 3) (mLoad1 (tg 3)), (some 26), none, 0, []⟩,
  ⟨CI.load (tg 2) (mLoadN 2 (tg 2)), (some 27), none, 1, []⟩,
  ⟨CI.mem 3 (mCall 58 [(tg 27), (cv (.int .i64 0))]), (some 28), none, 2, [0]⟩,
  ⟨CI.mem 1 (mBslice 2 1 (rep 1 [(.slice none 0 0), (.slice none 0 0)]) [(0, 2, (tg 28))]), (some 29), none, 3, []⟩,
  ⟨CI.mem 3 (mAppend 2 48 (tg 26) (tg 29)), (some 30), none, 4, []⟩,
  ⟨CI.mem 3 (mStore 1 (tg 3) (tg 30)), none, none, 5, []⟩]
@[simp] def o_w_All_1_4_ap := das_rule (c := o_w_All_1_4) rfl
def c_w_All_1_1 : SC := sCond (tg 25) (sAny o_w_All_1_4) sSkip
@[simp] def c_w_All_1_1_ap := cond_rule (c := c_w_All_1_1) rfl
def c_w_All_1_2 : SC := sSeq (sAny o_w_All_1_3) c_w_All_1_1
@[simp] def c_w_All_1_2_ap := seq_rule (c := c_w_All_1_2) rfl
def c_w_All_1_3 : SC := sSeq (sReg (seqI o_w_All_1_2)) c_w_All_1_2
@[simp] def c_w_All_1_3_ap := seq_rule (c := c_w_All_1_3) rfl
def c_w_All_1_4 : SC := sSeq c_w_All_1_3 sRet
@[simp] def c_w_All_1_4_ap := seq_rule (c := c_w_All_1_4) rfl
def c_w_All_1_5 : SC := sCond (tg 11) c_w_All_1_4 sSkip
@[simp] def c_w_All_1_5_ap := cond_rule (c := c_w_All_1_5) rfl
def c_w_All_1_6 : SC := sSeq (sReg (seqI o_w_All_1_1)) c_w_All_1_5
@[simp] def c_w_All_1_6_ap := seq_rule (c := c_w_All_1_6) rfl
def o_w_All_1_5 : List IS := [ip 8 (pMov (cv (.int .i64 1)))]
@[simp] def o_w_All_1_5_ap := ops_rule (c := o_w_All_1_5) rfl
def o_w_All_1_6 : List IS := [ip 31 (pMov (tg 8)),
  ip 32 (pBin .leq (tg 31) (cv (.int .i64 7)))]
@[simp] def o_w_All_1_6_ap := ops_rule (c := o_w_All_1_6) rfl
def c_w_All_1_7 : SC := sCond (tg 32) sSkip (sExit 0)
@[simp] def c_w_All_1_7_ap := cond_rule (c := c_w_All_1_7) rfl
def c_w_All_1_8 : SC := sSeq (sReg (seqI o_w_All_1_6)) c_w_All_1_7
@[simp] def c_w_All_1_8_ap := seq_rule (c := c_w_All_1_8) rfl
def o_w_All_1_7 : List IS := [ip 35 (pFaddr 0 (tg 2)),
  il 36 (tg 35) (mLoad1 (tg 35)),
  ip 37 (pMov (tg 0)),
  ip 38 (pMov (tg 8)),
  ip 39 (pBuild [(.int .i64 0), (.int .i64 0)] [(0, 1, (tg 38))]),
  ip 40 (pIaddrS 2 (tg 36) (tg 37)),
  im0 3 (mStore 2 (tg 40) (tg 39))]
@[simp] def o_w_All_1_7_ap := ops_rule (c := o_w_All_1_7) rfl
def o_w_All_1_8 : List IS := [il 41 (tg 4) (mLoad1 (tg 4)),
  ip 42 (pMov (tg 0)),
  ip 43 (pBin .add (tg 42) (cv (.int .i64 1))),
  im 3 44 (mCallv (tg 41) [(tg 43)])]
@[simp] def o_w_All_1_8_ap := ops_rule (c := o_w_All_1_8) rfl
def c_w_All_1_9 : SC := sSeq (sReg (seqI o_w_All_1_7)) (sReg (seqI o_w_All_1_8))
@[simp] def c_w_All_1_9_ap := seq_rule (c := c_w_All_1_9) rfl
def c_w_All_1_10 : SC := sBlock 1 c_w_All_1_9
@[simp] def c_w_All_1_10_ap := block_rule (c := c_w_All_1_10) rfl
def o_w_All_1_9 : List IS := [ip 33 (pMov (tg 8)),
  ip 34 (pBin .add (tg 33) (cv (.int .i64 1))),
  ip 8 (pMov (tg 34))]
@[simp] def o_w_All_1_9_ap := ops_rule (c := o_w_All_1_9) rfl
def c_w_All_1_11 : SC := sSeq c_w_All_1_10 (sReg (seqI o_w_All_1_9))
@[simp] def c_w_All_1_11_ap := seq_rule (c := c_w_All_1_11) rfl
def c_w_All_1_12 : SC := sSeq c_w_All_1_8 c_w_All_1_11
@[simp] def c_w_All_1_12_ap := seq_rule (c := c_w_All_1_12) rfl
def c_w_All_1_13 : SC := sLoop c_w_All_1_12
def c_w_All_1_14 : SC := sBlock 0 c_w_All_1_13
@[simp] def c_w_All_1_14_ap := block_rule (c := c_w_All_1_14) rfl
def c_w_All_1_15 : SC := sSeq (sReg (seqI o_w_All_1_5)) c_w_All_1_14
@[simp] def c_w_All_1_15_ap := seq_rule (c := c_w_All_1_15) rfl
def c_w_All_1_16 : SC := sSeq c_w_All_1_6 c_w_All_1_15
@[simp] def c_w_All_1_16_ap := seq_rule (c := c_w_All_1_16) rfl
def d_w_All_1 : DFn := ⟨c_w_All_1_16, 45, []⟩
theorem d_w_All_1_ok : fnOf Try.prog 63 = some d_w_All_1 := by kernel_rfl
def o_r_To_1 : List IS := [ip 2 (pMov (cv (.bool false)))]
@[simp] def o_r_To_1_ap := ops_rule (c := o_r_To_1) rfl
def o_r_To_2 : List IS := [ip 3 (pMov (tg 0)),
  ip 4 (pBin .eql (tg 3) (cv (.int .i64 2))),
  ip 5 (pMov (tg 4)),
  gd 5 false (some 6) (ip 6 (pMov (tg 0))),
  gd 5 false (some 7) (ip 7 (pBin .eql (tg 6) (cv (.int .i64 3)))),
  ip 8 (pPick (tg 5) (cv (.bool true)) (tg 7)),
  ip 9 (pMov (tg 8)),
  gd 9 false (some 10) (ip 10 (pMov (tg 0))),
  gd 9 false (some 11) (ip 11 (pBin .eql (tg 10) (cv (.int .i64 5)))),
  ip 12 (pPick (tg 9) (cv (.bool true)) (tg 11)),
  ip 13 (pMov (tg 12)),
  gd 13 false (some 14) (ip 14 (pMov (tg 0))),
  gd 13 false (some 15) (ip 15 (pBin .eql (tg 14) (cv (.int .i64 7)))),
  ip 16 (pPick (tg 13) (cv (.bool true)) (tg 15)),
  ip 2 (pMov (tg 16))]
@[simp] def o_r_To_2_ap := ops_rule (c := o_r_To_2) rfl
def c_r_To_1 : SC := sSeq (sReg (seqI o_r_To_2)) sRet
@[simp] def c_r_To_1_ap := seq_rule (c := c_r_To_1) rfl
def c_r_To_2 : SC := sSeq (sReg (seqI o_r_To_1)) c_r_To_1
@[simp] def c_r_To_2_ap := seq_rule (c := c_r_To_2) rfl
def d_r_To : DFn := ⟨c_r_To_2, 17, [.t 2]⟩
theorem d_r_To_ok : fnOf Try.prog 64 = some d_r_To := by kernel_rfl
def o_w_plain_1 : List IS := [im 1 1 (mBox (tg 0)),
  ip 2 (pMov (cv (.int .i64 0))),
  ip 3 (pMov (cv (.int .i64 0)))]
@[simp] def o_w_plain_1_ap := ops_rule (c := o_w_plain_1) rfl
def o_w_plain_2 : List IS := [ip 13 (pFaddr 0 (tg 1)),
  il 14 (tg 13) (mLoad1 (tg 13)),
  ip 15 (pLen (tg 14)),
  ip 16 (pBin .gtr (tg 15) (cv (.int .i64 16)))]
@[simp] def o_w_plain_2_ap := ops_rule (c := o_w_plain_2) rfl
def o_w_plain_3 : List IS := [ip 2 (pMov (cv (.int .i64 16))),
  ip 3 (pMov (cv (.int .i64 2)))]
@[simp] def o_w_plain_3_ap := ops_rule (c := o_w_plain_3) rfl
def c_w_plain_1 : SC := sSeq (sReg (seqI o_w_plain_3)) sRet
@[simp] def c_w_plain_1_ap := seq_rule (c := c_w_plain_1) rfl
def c_w_plain_2 : SC := sCond (tg 16) c_w_plain_1 sSkip
@[simp] def c_w_plain_2_ap := cond_rule (c := c_w_plain_2) rfl
def c_w_plain_3 : SC := sSeq (sReg (seqI o_w_plain_2)) c_w_plain_2
@[simp] def c_w_plain_3_ap := seq_rule (c := c_w_plain_3) rfl
def o_w_plain_4 : List IS := [ip 17 (pFaddr 1 (tg 1)),
  il 18 (tg 17) (mLoad1 (tg 17)),
  ip 19 (pLen (tg 18)),
  ip 20 (pFaddr 0 (tg 1)),
  il 21 (tg 20) (mLoad1 (tg 20)),
  ip 22 (pLen (tg 21)),
  ip 23 (pBin .neq (tg 19) (tg 22))]
@[simp] def o_w_plain_4_ap := ops_rule (c := o_w_plain_4) rfl
def o_w_plain_5 : List IS := [ip 2 (pMov (cv (.int .i64 0))),
  ip 3 (pMov (cv (.int .i64 1)))]
@[simp] def o_w_plain_5_ap := ops_rule (c := o_w_plain_5) rfl
def c_w_plain_4 : SC := sSeq (sReg (seqI o_w_plain_5)) sRet
@[simp] def c_w_plain_4_ap := seq_rule (c := c_w_plain_4) rfl
def c_w_plain_5 : SC := sCond (tg 23) c_w_plain_4 sSkip
@[simp] def c_w_plain_5_ap := cond_rule (c := c_w_plain_5) rfl
def c_w_plain_6 : SC := sSeq (sReg (seqI o_w_plain_4)) c_w_plain_5
@[simp] def c_w_plain_6_ap := seq_rule (c := c_w_plain_6) rfl
def o_w_plain_6 : List IS := [ip 24 (pFaddr 0 (tg 1)),
  il 25 (tg 24) (mLoad1 (tg 24)),
  im 3 26 (mCall 78 [(tg 25), (cv (.func (.func 85) #[] #[]))]),
  ip 4 (pMov (tg 26))]
@[simp] def o_w_plain_6_ap := ops_rule (c := o_w_plain_6) rfl
def o_w_plain_7 : List IS := [ip 27 (pMov (tg 4)),
  ip 28 (pBin .geq (tg 27) (cv (.int .i64 0)))]
@[simp] def o_w_plain_7_ap := ops_rule (c := o_w_plain_7) rfl
def o_w_plain_8 : List IS := [ip 29 (pMov (tg 4)),
  ip 2 (pMov (tg 29)),
  ip 3 (pMov (cv (.int .i64 1)))]
@[simp] def o_w_plain_8_ap := ops_rule (c := o_w_plain_8) rfl
def c_w_plain_7 : SC := sSeq (sReg (seqI o_w_plain_8)) sRet
@[simp] def c_w_plain_7_ap := seq_rule (c := c_w_plain_7) rfl
def c_w_plain_8 : SC := sCond (tg 28) c_w_plain_7 sSkip
@[simp] def c_w_plain_8_ap := cond_rule (c := c_w_plain_8) rfl
def c_w_plain_9 : SC := sSeq (sReg (seqI o_w_plain_7)) c_w_plain_8
@[simp] def c_w_plain_9_ap := seq_rule (c := c_w_plain_9) rfl
def c_w_plain_10 : SC := sSeq (sReg (seqI o_w_plain_6)) c_w_plain_9
@[simp] def c_w_plain_10_ap := seq_rule (c := c_w_plain_10) rfl
def o_w_plain_9 : List IS := [il 30 (tg 1) (mLoadN 2 (tg 1)),
  ip 31 (pBuild [(.slice none 0 0), (.slice none 0 0), (.int .i64 0), (.int .i64 0), (.int .i64 0), (.slice none 0 0), (.slice none 0 0), (.slice none 0 0), (.slice none 0 0)] [(0, 2, (tg 30))]),
  im 1 32 (mBox (tg 31)),
  ip 5 (pMov (tg 32))]
@[simp] def o_w_plain_9_ap := ops_rule (c := o_w_plain_9) rfl
def o_w_plain_10 : List IS := [ip 33 (pFaddr 0 (tg 1)),
  il 34 (tg 33) (mLoad1 (tg 33)),
  ip 35 (pLen (tg 34)),
  ip 36 (pMov (cv (.int .i64 0)))]
@[simp] def o_w_plain_10_ap := ops_rule (c := o_w_plain_10) rfl
def o_w_plain_11 : List IS := [ip 37 (pBin .lss (tg 36) (tg 35))]
@[simp] def o_w_plain_11_ap := ops_rule (c := o_w_plain_11) rfl
def c_w_plain_11 : SC := sCond (tg 37) sSkip (sExit 0)
@[simp] def c_w_plain_11_ap := cond_rule (c := c_w_plain_11) rfl
def o_w_plain_12 : List IS := [ip 38 (pMov (tg 36)),
  ip 39 (pIaddrS 2 (tg 34) (tg 36)),
  il 40 (tg 39) (mLoadN 2 (tg 39)),
  im 1 7 (mAlloc [(.int .i64 0), (.int .i64 0)]),
  ip 6 (pMov (tg 38)),
  im0 3 (mStore 2 (tg 7) (tg 40))]
@[simp] def o_w_plain_12_ap := ops_rule (c := o_w_plain_12) rfl
def o_w_plain_13 : List IS := [il 42 (tg 7) (mLoadN 2 (tg 7)),
  im 3 43 (mCall 72 [(tg 42)]),
  ip 41 (pMov (tg 43)),
  ip 44 (pExtract (tg 41) 0),
  ip 45 (pExtract (tg 41) 1),
  ip 8 (pMov (tg 44)),
  ip 9 (pMov (tg 45))]
@[simp] def o_w_plain_13_ap := ops_rule (c := o_w_plain_13) rfl
def o_w_plain_14 : List DA := [⟨CI.pure (pFaddr 0 (tg 1)), (some 47), none, 0, []⟩,
  ⟨CI.load (tg 47) (mLoad1 (tg 47)), (some 48), none, 1, []⟩,
  ⟨CI.pure (pMov (tg 5)), (some 49), none, 2, []⟩,
  ⟨CI.pure (pMov (tg 6)), (some 50), none, 3, []⟩,
  ⟨CI.mem 3 (mCall 69 [(tg 49), (tg 50)]), (some 51), none, 4, [1]⟩,
  ⟨CI.pure (pIaddrS 2 (tg 48) (tg 51)), (some 52), none, 5, []⟩,
  ⟨CI.load (tg 52) (mLoadN 2 (tg 52)), (some 53), none, 6, []⟩,
  ⟨CI.mem 3 (mCall 72 [(tg 53)]), (some 54), none, 7, []⟩,
  ⟨CI.pure (pMov (tg 54)), (some 46), none, 8, []⟩,
  ⟨CI.pure (pExtract (tg 46) 0), (some 55), none, 9, []⟩,
  ⟨CI.pure (pExtract (tg 46) 1), (some 56), none, 10, []⟩,
  ⟨CI.pure (pMov (tg 55)), (some 10), none, 11, []⟩,
  ⟨CI.pure (pMov (tg 56)), (some 11), none, 12, []⟩]
@[simp] def o_w_plain_14_ap := das_rule (c := o_w_plain_14) rfl
def o_w_plain_15 : List IS := [ip 57 (pMov (tg 11)),
  ip 58 (pMov (tg 8)),
  ip 59 (pBin .neq (tg 57) (tg 58))]
@[simp] def o_w_plain_15_ap := ops_rule (c := o_w_plain_15) rfl
def o_w_plain_16 : List IS := [ip 60 (pMov (tg 6)),
  ip 2 (pMov (tg 60)),
  ip 3 (pMov (cv (.int .i64 3)))]
@[simp] def o_w_plain_16_ap := ops_rule (c := o_w_plain_16) rfl
def c_w_plain_12 : SC := sSeq (sReg (seqI o_w_plain_16)) sRet
@[simp] def c_w_plain_12_ap := seq_rule (c := c_w_plain_12) rfl
def c_w_plain_13 : SC := sCond (tg 59) c_w_plain_12 sSkip
@[simp] def c_w_plain_13_ap := cond_rule (c := c_w_plain_13) rfl
def c_w_plain_14 : SC := sSeq (sReg (seqI o_w_plain_15)) c_w_plain_13
@[simp] def c_w_plain_14_ap := seq_rule (c := c_w_plain_14) rfl
def c_w_plain_15 : SC := sSeq (sAny o_w_plain_14) c_w_plain_14
@[simp] def c_w_plain_15_ap := seq_rule (c := c_w_plain_15) rfl
def c_w_plain_16 : SC := sSeq (sReg (seqI o_w_plain_13)) c_w_plain_15
@[simp] def c_w_plain_16_ap := seq_rule (c := c_w_plain_16) rfl
def c_w_plain_17 : SC := sSeq (sReg (seqI o_w_plain_12)) c_w_plain_16
@[simp] def c_w_plain_17_ap := seq_rule (c := c_w_plain_17) rfl
def c_w_plain_18 : SC := sBlock 1 c_w_plain_17
@[simp] def c_w_plain_18_ap := block_rule (c := c_w_plain_18) rfl
def o_w_plain_17 : List IS := [ip 61 (pBin .add (tg 36) (cv (.int .i64 1))),
  ip 36 (pMov (tg 61))]
@[simp] def o_w_plain_17_ap := ops_rule (c := o_w_plain_17) rfl
def c_w_plain_19 : SC := sSeq c_w_plain_18 (sReg (seqI o_w_plain_17))
@[simp] def c_w_plain_19_ap := seq_rule (c := c_w_plain_19) rfl
def c_w_plain_20 : SC := sSeq c_w_plain_11 c_w_plain_19
@[simp] def c_w_plain_20_ap := seq_rule (c := c_w_plain_20) rfl
def c_w_plain_21 : SC := sSeq (sReg (seqI o_w_plain_11)) c_w_plain_20
@[simp] def c_w_plain_21_ap := seq_rule (c := c_w_plain_21) rfl
def c_w_plain_22 : SC := sLoop c_w_plain_21
def c_w_plain_23 : SC := sBlock 0 c_w_plain_22
@[simp] def c_w_plain_23_ap := block_rule (c := c_w_plain_23) rfl
def c_w_plain_24 : SC := sSeq (sReg (seqI o_w_plain_10)) c_w_plain_23
@[simp] def c_w_plain_24_ap := seq_rule (c := c_w_plain_24) rfl
def o_w_plain_18 : List IS := [ip 62 (pFaddr 0 (tg 1)),
  il 63 (tg 62) (mLoad1 (tg 62)),
  ip 64 (pLen (tg 63)),
  ip 65 (pMov (cv (.int .i64 0)))]
@[simp] def o_w_plain_18_ap := ops_rule (c := o_w_plain_18) rfl
def o_w_plain_19 : List IS := [ip 66 (pBin .lss (tg 65) (tg 64))]
@[simp] def o_w_plain_19_ap := ops_rule (c := o_w_plain_19) rfl
def c_w_plain_25 : SC := sCond (tg 66) sSkip (sExit 2)
@[simp] def c_w_plain_25_ap := cond_rule (c := c_w_plain_25) rfl
def o_w_plain_20 : List IS := [ip 67 (pMov (tg 65)),
  ip 12 (pMov (tg 67))]
@[simp] def o_w_plain_20_ap := ops_rule (c := o_w_plain_20) rfl
def o_w_plain_21 : List DA := [⟨CI.pure (pMov (tg 5)), (some 68), none, 0, []⟩,
  ⟨CI.pure (pMov (tg 12)), (some 69), none, 1, []⟩,
  ⟨CI.mem 3 (mCall 41 [(tg 68), (tg 69)]), (some 70), none, 2, []⟩,
  ⟨CI.pure (pFaddr 1 (tg 1)), (some 71), none, 3, []⟩,
  ⟨CI.load (tg 71) (mLoad1 (tg 71)), (some 72), none, 4, [2]⟩,
  ⟨CI.pure (pMov (tg 12)), (some 73), none, 5, []⟩,
  ⟨CI.pure (pIaddrS 1 (tg 72) (tg 73)), (some 74), none, 6, []⟩,
  ⟨CI.load (tg 74) (mLoad1 (tg 74)), (some 75), none, 7, [2]⟩,
  ⟨CI.mem 3 (mCall 87 [(tg 70), (tg 75)]), (some 76), none, 8, []⟩,
  ⟨CI.pure (pUn .not (tg 76)), (some 77), none, 9, []⟩]
@[simp] def o_w_plain_21_ap := das_rule (c := o_w_plain_21) rfl
def o_w_plain_22 : List IS := [ip 78 (pMov (tg 12)),
  ip 2 (pMov (tg 78)),
  ip 3 (pMov (cv (.int .i64 25)))]
@[simp] def o_w_plain_22_ap := ops_rule (c := o_w_plain_22) rfl
def c_w_plain_26 : SC := sSeq (sReg (seqI o_w_plain_22)) sRet
@[simp] def c_w_plain_26_ap := seq_rule (c := c_w_plain_26) rfl
def c_w_plain_27 : SC := sCond (tg 77) c_w_plain_26 sSkip
@[simp] def c_w_plain_27_ap := cond_rule (c := c_w_plain_27) rfl
def c_w_plain_28 : SC := sSeq (sAny o_w_plain_21) c_w_plain_27
@[simp] def c_w_plain_28_ap := seq_rule (c := c_w_plain_28) rfl
def c_w_plain_29 : SC := sSeq (sReg (seqI o_w_plain_20)) c_w_plain_28
@[simp] def c_w_plain_29_ap := seq_rule (c := c_w_plain_29) rfl
def c_w_plain_30 : SC := sBlock 3 c_w_plain_29
@[simp] def c_w_plain_30_ap := block_rule (c := c_w_plain_30) rfl
def o_w_plain_23 : List IS := [ip 79 (pBin .add (tg 65) (cv (.int .i64 1))),
  ip 65 (pMov (tg 79))]
@[simp] def o_w_plain_23_ap := ops_rule (c := o_w_plain_23) rfl
def c_w_plain_31 : SC := sSeq c_w_plain_30 (sReg (seqI o_w_plain_23))
@[simp] def c_w_plain_31_ap := seq_rule (c := c_w_plain_31) rfl
def c_w_plain_32 : SC := sSeq c_w_plain_25 c_w_plain_31
@[simp] def c_w_plain_32_ap := seq_rule (c := c_w_plain_32) rfl
def c_w_plain_33 : SC := sSeq (sReg (seqI o_w_plain_19)) c_w_plain_32
@[simp] def c_w_plain_33_ap := seq_rule (c := c_w_plain_33) rfl
def c_w_plain_34 : SC := sLoop c_w_plain_33
def c_w_plain_35 : SC := sBlock 2 c_w_plain_34
@[simp] def c_w_plain_35_ap := block_rule (c := c_w_plain_35) rfl
def c_w_plain_36 : SC := sSeq (sReg (seqI o_w_plain_18)) c_w_plain_35
@[simp] def c_w_plain_36_ap := seq_rule (c := c_w_plain_36) rfl
def o_w_plain_24 : List IS := [ip 2 (pMov (cv (.int .i64 0))),
  ip 3 (pMov (cv (.int .i64 0)))]
@[simp] def o_w_plain_24_ap := ops_rule (c := o_w_plain_24) rfl
def c_w_plain_37 : SC := sSeq (sReg (seqI o_w_plain_24)) sRet
@[simp] def c_w_plain_37_ap := seq_rule (c := c_w_plain_37) rfl
def c_w_plain_38 : SC := sSeq c_w_plain_36 c_w_plain_37
@[simp] def c_w_plain_38_ap := seq_rule (c := c_w_plain_38) rfl
def c_w_plain_39 : SC := sSeq c_w_plain_24 c_w_plain_38
@[simp] def c_w_plain_39_ap := seq_rule (c := c_w_plain_39) rfl
def c_w_plain_40 : SC := sSeq (sReg (seqI o_w_plain_9)) c_w_plain_39
@[simp] def c_w_plain_40_ap := seq_rule (c := c_w_plain_40) rfl
def c_w_plain_41 : SC := sSeq c_w_plain_10 c_w_plain_40
@[simp] def c_w_plain_41_ap := seq_rule (c := c_w_plain_41) rfl
def c_w_plain_42 : SC := sSeq c_w_plain_6 c_w_plain_41
@[simp] def c_w_plain_42_ap := seq_rule (c := c_w_plain_42) rfl
def c_w_plain_43 : SC := sSeq c_w_plain_3 c_w_plain_42
@[simp] def c_w_plain_43_ap := seq_rule (c := c_w_plain_43) rfl
def c_w_plain_44 : SC := sSeq (sReg (seqI o_w_plain_1)) c_w_plain_43
@[simp] def c_w_plain_44_ap := seq_rule (c := c_w_plain_44) rfl
def d_w_plain : DFn := ⟨c_w_plain_44, 80, [.t 2, .t 3]⟩
theorem d_w_plain_ok : fnOf Try.prog 67 = some d_w_plain := by kernel_rfl
def o_w_Edge_outer_1 : List IS := [im 1 1 (mBox (tg 0)),
  ip 2 (pMov (cv (.bool false)))]
@[simp] def o_w_Edge_outer_1_ap := ops_rule (c := o_w_Edge_outer_1) rfl
def o_w_Edge_outer_2 : List IS := [ip 3 (pFaddr 0 (tg 1)),
  il 4 (tg 3) (mLoad1 (tg 3)),
  ip 5 (pBin .leq (tg 4) (cv (.int .i64 3))),
  ip 2 (pMov (tg 5))]
@[simp] def o_w_Edge_outer_2_ap := ops_rule (c := o_w_Edge_outer_2) rfl
def c_w_Edge_outer_1 : SC := sSeq (sReg (seqI o_w_Edge_outer_2)) sRet
@[simp] def c_w_Edge_outer_1_ap := seq_rule (c := c_w_Edge_outer_1) rfl
def c_w_Edge_outer_2 : SC := sSeq (sReg (seqI o_w_Edge_outer_1)) c_w_Edge_outer_1
@[simp] def c_w_Edge_outer_2_ap := seq_rule (c := c_w_Edge_outer_2) rfl
def d_w_Edge_outer : DFn := ⟨c_w_Edge_outer_2, 6, [.t 2]⟩
theorem d_w_Edge_outer_ok : fnOf Try.prog 68 = some d_w_Edge_outer := by kernel_rfl
def o_w_plan_ahead_1 : List IS := [ip 4 (pMov (cv (.int .i64 0)))]
@[simp] def o_w_plan_ahead_1_ap := ops_rule (c := o_w_plan_ahead_1) rfl
def o_w_plan_ahead_2 : List DA := [⟨CI.pure (pMov (tg 1)), (some 5), none, 0, []⟩,
  ⟨CI.pure (pMov (tg 0)), (some 6), none, 1, []⟩,
  ⟨CI.pure (pNilck (tg 6)), (some 7), none, 2, []⟩,
  ⟨CI.pure (pFaddr 0 (tg 7)), (some 8), none, 3, []⟩,
  ⟨CI.pure (pFaddr 0 (tg 8)), (some 9), none, 4, []⟩,
  ⟨CI.load (tg 9) (mLoad1 (tg 9)), (some 10), none, 5, []⟩,
  ⟨CI.pure (pLen (tg 10)), (some 11), none, 6, []⟩,
  ⟨CI.pure (pBin .add (tg 5) (tg 11)), (some 12), none, 7, []⟩,
  ⟨CI.pure (pBin .sub (tg 12) (cv (.int .i64 1))), (some 13), none, 8, []⟩,
  ⟨CI.pure (pMov (tg 0)), (some 14), none, 9, []⟩,
  ⟨CI.pure (pNilck (tg 14)), (some 15), none, 10, []⟩,
  ⟨CI.pure (pFaddr 0 (tg 15)), (some 16), none, 11, []⟩,
  ⟨CI.pure (pFaddr 0 (tg 16)), (some 17), none, 12, []⟩,
  ⟨CI.load (tg 17) (mLoad1 (tg 17)), (some 18), none, 13, []⟩,
  ⟨CI.pure (pLen (tg 18)), (some 19), none, 14, []⟩,
  ⟨CI.pure (pBin .rem (tg 13) (tg 19)), (some 20), none, 15, []⟩,
  ⟨CI.pure (pMov (tg 20)), (some 4), none, 16, []⟩]
@[simp] def o_w_plan_ahead_2_ap := das_rule (c := o_w_plan_ahead_2) rfl
def c_w_plan_ahead_1 : SC := sSeq (sAny o_w_plan_ahead_2) sRet
@[simp] def c_w_plan_ahead_1_ap := seq_rule (c := c_w_plan_ahead_1) rfl
def c_w_plan_ahead_2 : SC := sSeq (sReg (seqI o_w_plan_ahead_1)) c_w_plan_ahead_1
@[simp] def c_w_plan_ahead_2_ap := seq_rule (c := c_w_plan_ahead_2) rfl
def d_w_plan_ahead : DFn := ⟨c_w_plan_ahead_2, 21, [.t 4]⟩
theorem d_w_plan_ahead_ok : fnOf Try.prog 69 = some d_w_plan_ahead := by kernel_rfl
def o_w_plan_values_1 : List IS := [im 1 1 (mBox (tg 0))]
@[simp] def o_w_plan_values_1_ap := ops_rule (c := o_w_plan_values_1) rfl
def o_w_plan_values_2 : List IS := [il 5 (tg 1) (mLoad1 (tg 1)),
  ip 6 (pNilck (tg 5)),
  ip 7 (pFaddr 4 (tg 6)),
  il 8 (tg 7) (mLoad1 (tg 7)),
  ip 9 (pMov (cv (.int .i64 0)))]
@[simp] def o_w_plan_values_2_ap := ops_rule (c := o_w_plan_values_2) rfl
def o_w_plan_values_3 : List IS := [ip 10 (pBin .lss (tg 9) (tg 8))]
@[simp] def o_w_plan_values_3_ap := ops_rule (c := o_w_plan_values_3) rfl
def c_w_plan_values_1 : SC := sCond (tg 10) sSkip (sExit 0)
@[simp] def c_w_plan_values_1_ap := cond_rule (c := c_w_plan_values_1) rfl
def o_w_plan_values_4 : List IS := [ip 11 (pMov (tg 9)),
  ip 2 (pMov (tg 11))]
@[simp] def o_w_plan_values_4_ap := ops_rule (c := o_w_plan_values_4) rfl
def o_w_plan_values_5 : List IS := [im 1 3 (mAlloc [(.int .i64 0)]),
  im0 3 (mStore 1 (tg 3) (cv (.int .i64 0)))]
@[simp] def o_w_plan_values_5_ap := ops_rule (c := o_w_plan_values_5) rfl
def o_w_plan_values_6 : List IS := [il 12 (tg 1) (mLoad1 (tg 1)),
  ip 13 (pMov (tg 2)),
  im 3 14 (mCall 88 [(tg 12), (tg 13)])]
@[simp] def o_w_plan_values_6_ap := ops_rule (c := o_w_plan_values_6) rfl
def o_w_plan_values_7 : List IS := [ip 4 (pMov (tg 15))]
@[simp] def o_w_plan_values_7_ap := ops_rule (c := o_w_plan_values_7) rfl
def o_w_plan_values_8 : List IS := [il 17 (tg 1) (mLoad1 (tg 1)),
  ip 18 (pMov (tg 4)),
  im 3 19 (mCall 41 [(tg 17), (tg 18)]),
  ip 20 (pBin .eql (tg 19) (cv (.int .i64 2))),
  ip 16 (pMov (tg 20))]
@[simp] def o_w_plan_values_8_ap := ops_rule (c := o_w_plan_values_8) rfl
def o_w_plan_values_9 : List IS := [il 21 (tg 3) (mLoad1 (tg 3)),
  ip 22 (pBin .add (tg 21) (cv (.int .i64 1))),
  im0 3 (mStore 1 (tg 3) (tg 22))]
@[simp] def o_w_plan_values_9_ap := ops_rule (c := o_w_plan_values_9) rfl
def o_w_plan_values_10 : List DA := [⟨CI.load (tg 1) (mLoad1 (tg 1)), (some 23), none, 0, []⟩,
  ⟨CI.pure (pNilck (tg 23)), (some 24), none, 1, []⟩,
  ⟨CI.pure (pFaddr 7 (tg 24)), (some 25), none, 2, []⟩,
  ⟨CI.load (tg 25) (mLoad1 (tg 25)), (some 26), none, 3, []⟩,
  ⟨CI.pure (pMov (tg 4)), (some 27), none, 4, []⟩,
  ⟨CI.load (tg 3) (mLoad1 (tg 3)), (some 28), none, 5, []⟩,
  ⟨CI.pure (pIaddrS 1 (tg 26) (tg 27)), (some 29), none, 6, []⟩,
  ⟨CI.mem 3 (mStore 1 (tg 29) (tg 28)), none, none, 7, []⟩]
@[simp] def o_w_plan_values_10_ap := das_rule (c := o_w_plan_values_10) rfl
def c_w_plan_values_2 : SC := sSeq (sReg (seqI o_w_plan_values_9)) (sAny o_w_plan_values_10)
@[simp] def c_w_plan_values_2_ap := seq_rule (c := c_w_plan_values_2) rfl
def o_w_plan_values_11 : List DA := [⟨CI.load (tg 1) (mLoad1 (tg 1)), (some 31), none, 0, []⟩,
  ⟨CI.pure (pNilck (tg 31)), (some 32), none, 1, []⟩,
  ⟨CI.pure (pFaddr 0 (tg 32)), (some 33), none, 2, []⟩,
  ⟨CI.pure (pFaddr 0 (tg 33)), (some 34), none, 3, []⟩,
  ⟨CI.load (tg 34) (mLoad1 (tg 34)), (some 35), none, 4, []⟩,
  ⟨CI.load (tg 1) (mLoad1 (tg 1)), (some 36), none, 5, []⟩,
  ⟨CI.pure (pMov (tg 4)), (some 37), none, 6, []⟩,
  ⟨CI.mem 3 (mCall 69 [(tg 36), (tg 37)]), (some 38), none, 7, [0, 4]⟩,
  ⟨CI.pure (pIaddrS 2 (tg 35) (tg 38)), (some 39), none, 8, []⟩,
  ⟨CI.pure (pFaddr 0 (tg 39)), (some 40), none, 9, []⟩,
  ⟨CI.load (tg 40) (mLoad1 (tg 40)), (some 41), none, 10, []⟩,
  ⟨CI.pure (pBin .eql (tg 41) (cv (.int .i64 1))), (some 42), none, 11, []⟩,
  ⟨CI.pure (pMov (tg 42)), (some 30), none, 12, []⟩]
@[simp] def o_w_plan_values_11_ap := das_rule (c := o_w_plan_values_11) rfl
def o_w_plan_values_12 : List DA := [⟨CI.load (tg 1) (mLoad1 (tg 1)), (some 43), none, 0, []⟩,
  ⟨CI.pure (pNilck (tg 43)), (some 44), none, 1, []⟩,
  ⟨CI.pure (pFaddr 7 (tg 44)), (some 45), none, 2, []⟩,
  ⟨CI.load (tg 45) (mLoad1 (tg 45)), (some 46), none, 3, []⟩,
  ⟨CI.pure (pMov (tg 4)), (some 47), none, 4, []⟩,
  ⟨CI.load (tg 1) (mLoad1 (tg 1)), (some 48), none, 5, []⟩,
  ⟨CI.pure (pNilck (tg 48)), (some 49), none, 6, []⟩,
  ⟨CI.pure (pFaddr 7 (tg 49)), (some 50), none, 7, []⟩,
  ⟨CI.load (tg 50) (mLoad1 (tg 50)), (some 51), none, 8, []⟩,
  ⟨CI.load (tg 1) (mLoad1 (tg 1)), (some 52), none, 9, []⟩,
  ⟨CI.pure (pMov (tg 4)), (some 53), none, 10, []⟩,
  ⟨CI.mem 3 (mCall 69 [(tg 52), (tg 53)]), (some 54), none, 11, [0, 3, 5, 8]⟩,
  ⟨CI.pure (pIaddrS 1 (tg 51) (tg 54)), (some 55), none, 12, []⟩,
  ⟨CI.load (tg 55) (mLoad1 (tg 55)), (some 56), none, 13, []⟩,
  ⟨CI.pure (pIaddrS 1 (tg 46) (tg 47)), (some 57), none, 14, []⟩,
  ⟨CI.mem 3 (mStore 1 (tg 57) (tg 56)), none, none, 15, []⟩]
@[simp] def o_w_plan_values_12_ap := das_rule (c := o_w_plan_values_12) rfl
def c_w_plan_values_3 : SC := sCond (tg 30) (sAny o_w_plan_values_12) sSkip
@[simp] def c_w_plan_values_3_ap := cond_rule (c := c_w_plan_values_3) rfl
def c_w_plan_values_4 : SC := sSeq (sAny o_w_plan_values_11) c_w_plan_values_3
@[simp] def c_w_plan_values_4_ap := seq_rule (c := c_w_plan_values_4) rfl
def c_w_plan_values_5 : SC := sCond (tg 16) c_w_plan_values_2 c_w_plan_values_4
@[simp] def c_w_plan_values_5_ap := cond_rule (c := c_w_plan_values_5) rfl
def c_w_plan_values_6 : SC := sSeq (sReg (seqI o_w_plan_values_8)) c_w_plan_values_5
@[simp] def c_w_plan_values_6_ap := seq_rule (c := c_w_plan_values_6) rfl
def c_w_plan_values_7 : SC := sBlock 4 c_w_plan_values_6
@[simp] def c_w_plan_values_7_ap := block_rule (c := c_w_plan_values_7) rfl
def c_w_plan_values_8 : SC := sBlock 3 c_w_plan_values_7
@[simp] def c_w_plan_values_8_ap := block_rule (c := c_w_plan_values_8) rfl
def ya_weave_plan_values_1 : SC := (sReg (seqI o_w_plan_values_7))
theorem ya_weave_plan_values_1_ok : cCode Try.prog 59 (cL (cL (cR (cR (cR (cL (cL (cR (cR (cL (cL (cR (cR (bodyOf Try.f70)))))))))))))) = some ya_weave_plan_values_1 := by kernel_rfl
def yb_weave_plan_values_1 : SC := c_w_plan_values_8
theorem yb_weave_plan_values_1_ok : cCode Try.prog 59 (cR (cL (cR (cR (cR (cL (cL (cR (cR (cL (cL (cR (cR (bodyOf Try.f70)))))))))))))) = some yb_weave_plan_values_1 := by kernel_rfl
def c_w_plan_values_9 : SC := sRf (tg 14) 59 #[15] (cL (cL (cR (cR (cR (cL (cL (cR (cR (cL (cL (cR (cR (bodyOf Try.f70)))))))))))))) (cR (cL (cR (cR (cR (cL (cL (cR (cR (cL (cL (cR (cR (bodyOf Try.f70)))))))))))))) [3, 1]
def c_w_plan_values_10 : SC := sBlock 2 c_w_plan_values_9
@[simp] def c_w_plan_values_10_ap := block_rule (c := c_w_plan_values_10) rfl
def c_w_plan_values_11 : SC := sSeq (sReg (seqI o_w_plan_values_6)) c_w_plan_values_10
@[simp] def c_w_plan_values_11_ap := seq_rule (c := c_w_plan_values_11) rfl
def c_w_plan_values_12 : SC := sSeq (sReg (seqI o_w_plan_values_5)) c_w_plan_values_11
@[simp] def c_w_plan_values_12_ap := seq_rule (c := c_w_plan_values_12) rfl
def c_w_plan_values_13 : SC := sSeq (sReg (seqI o_w_plan_values_4)) c_w_plan_values_12
@[simp] def c_w_plan_values_13_ap := seq_rule (c := c_w_plan_values_13) rfl
def c_w_plan_values_14 : SC := sBlock 1 c_w_plan_values_13
@[simp] def c_w_plan_values_14_ap := block_rule (c := c_w_plan_values_14) rfl
def o_w_plan_values_13 : List IS := [ip 58 (pBin .add (tg 9) (cv (.int .i64 1))),
  ip 9 (pMov (tg 58))]
@[simp] def o_w_plan_values_13_ap := ops_rule (c := o_w_plan_values_13) rfl
def c_w_plan_values_15 : SC := sSeq c_w_plan_values_14 (sReg (seqI o_w_plan_values_13))
@[simp] def c_w_plan_values_15_ap := seq_rule (c := c_w_plan_values_15) rfl
def c_w_plan_values_16 : SC := sSeq c_w_plan_values_1 c_w_plan_values_15
@[simp] def c_w_plan_values_16_ap := seq_rule (c := c_w_plan_values_16) rfl
def c_w_plan_values_17 : SC := sSeq (sReg (seqI o_w_plan_values_3)) c_w_plan_values_16
@[simp] def c_w_plan_values_17_ap := seq_rule (c := c_w_plan_values_17) rfl
def c_w_plan_values_18 : SC := sLoop c_w_plan_values_17
def c_w_plan_values_19 : SC := sBlock 0 c_w_plan_values_18
@[simp] def c_w_plan_values_19_ap := block_rule (c := c_w_plan_values_19) rfl
def c_w_plan_values_20 : SC := sSeq (sReg (seqI o_w_plan_values_2)) c_w_plan_values_19
@[simp] def c_w_plan_values_20_ap := seq_rule (c := c_w_plan_values_20) rfl
def c_w_plan_values_21 : SC := sSeq (sReg (seqI o_w_plan_values_1)) c_w_plan_values_20
@[simp] def c_w_plan_values_21_ap := seq_rule (c := c_w_plan_values_21) rfl
def d_w_plan_values : DFn := ⟨c_w_plan_values_21, 59, []⟩
theorem d_w_plan_values_ok : fnOf Try.prog 70 = some d_w_plan_values := by kernel_rfl
def o_w_plan_walk_1_1 : List IS := [il 5 (tg 1) (mLoad1 (tg 1)),
  ip 6 (pNilck (tg 5)),
  ip 7 (pFaddr 0 (tg 6)),
  ip 8 (pFaddr 0 (tg 7)),
  il 9 (tg 8) (mLoad1 (tg 8)),
  ip 10 (pLen (tg 9)),
  ip 3 (pMov (tg 10))]
@[simp] def o_w_plan_walk_1_1_ap := ops_rule (c := o_w_plan_walk_1_1) rfl
def o_w_plan_walk_1_2 : List IS := [ip 11 (pMov (tg 3)),
  ip 12 (pMov (cv (.int .i64 0)))]
@[simp] def o_w_plan_walk_1_2_ap := ops_rule (c := o_w_plan_walk_1_2) rfl
def o_w_plan_walk_1_3 : List IS := [ip 13 (pBin .lss (tg 12) (tg 11))]
@[simp] def o_w_plan_walk_1_3_ap := ops_rule (c := o_w_plan_walk_1_3) rfl
def c_w_plan_walk_1_1 : SC := sCond (tg 13) sSkip (sExit 0)
@[simp] def c_w_plan_walk_1_1_ap := cond_rule (c := c_w_plan_walk_1_1) rfl
def o_w_plan_walk_1_4 : List IS := [ip 14 (pMov (tg 12)),
  ip 4 (pMov (tg 14))]
@[simp] def o_w_plan_walk_1_4_ap := ops_rule (c := o_w_plan_walk_1_4) rfl
def o_w_plan_walk_1_5 : List IS := [ip 15 (pMov (tg 0)),
  il 16 (tg 1) (mLoad1 (tg 1)),
  ip 17 (pNilck (tg 16)),
  ip 18 (pFaddr 2 (tg 17)),
  il 19 (tg 18) (mLoad1 (tg 18)),
  ip 20 (pMov (tg 4)),
  ip 21 (pBin .add (tg 19) (tg 20)),
  ip 22 (pMov (tg 3)),
  ip 23 (pBin .rem (tg 21) (tg 22)),
  im 3 24 (mCallv (tg 15) [(tg 23)]),
  ip 25 (pUn .not (tg 24))]
@[simp] def o_w_plan_walk_1_5_ap := ops_rule (c := o_w_plan_walk_1_5) rfl
def c_w_plan_walk_1_2 : SC := sCond (tg 25) sRet sSkip
@[simp] def c_w_plan_walk_1_2_ap := cond_rule (c := c_w_plan_walk_1_2) rfl
def c_w_plan_walk_1_3 : SC := sSeq (sReg (seqI o_w_plan_walk_1_5)) c_w_plan_walk_1_2
@[simp] def c_w_plan_walk_1_3_ap := seq_rule (c := c_w_plan_walk_1_3) rfl
def c_w_plan_walk_1_4 : SC := sSeq (sReg (seqI o_w_plan_walk_1_4)) c_w_plan_walk_1_3
@[simp] def c_w_plan_walk_1_4_ap := seq_rule (c := c_w_plan_walk_1_4) rfl
def c_w_plan_walk_1_5 : SC := sBlock 1 c_w_plan_walk_1_4
@[simp] def c_w_plan_walk_1_5_ap := block_rule (c := c_w_plan_walk_1_5) rfl
def o_w_plan_walk_1_6 : List IS := [ip 26 (pBin .add (tg 12) (cv (.int .i64 1))),
  ip 12 (pMov (tg 26))]
@[simp] def o_w_plan_walk_1_6_ap := ops_rule (c := o_w_plan_walk_1_6) rfl
def c_w_plan_walk_1_6 : SC := sSeq c_w_plan_walk_1_5 (sReg (seqI o_w_plan_walk_1_6))
@[simp] def c_w_plan_walk_1_6_ap := seq_rule (c := c_w_plan_walk_1_6) rfl
def c_w_plan_walk_1_7 : SC := sSeq c_w_plan_walk_1_1 c_w_plan_walk_1_6
@[simp] def c_w_plan_walk_1_7_ap := seq_rule (c := c_w_plan_walk_1_7) rfl
def c_w_plan_walk_1_8 : SC := sSeq (sReg (seqI o_w_plan_walk_1_3)) c_w_plan_walk_1_7
@[simp] def c_w_plan_walk_1_8_ap := seq_rule (c := c_w_plan_walk_1_8) rfl
def c_w_plan_walk_1_9 : SC := sLoop c_w_plan_walk_1_8
def c_w_plan_walk_1_10 : SC := sBlock 0 c_w_plan_walk_1_9
@[simp] def c_w_plan_walk_1_10_ap := block_rule (c := c_w_plan_walk_1_10) rfl
def c_w_plan_walk_1_11 : SC := sSeq (sReg (seqI o_w_plan_walk_1_2)) c_w_plan_walk_1_10
@[simp] def c_w_plan_walk_1_11_ap := seq_rule (c := c_w_plan_walk_1_11) rfl
def c_w_plan_walk_1_12 : SC := sSeq (sReg (seqI o_w_plan_walk_1_1)) c_w_plan_walk_1_11
@[simp] def c_w_plan_walk_1_12_ap := seq_rule (c := c_w_plan_walk_1_12) rfl
def d_w_plan_walk_1 : DFn := ⟨c_w_plan_walk_1_12, 27, []⟩
theorem d_w_plan_walk_1_ok : fnOf Try.prog 71 = some d_w_plan_walk_1 := by kernel_rfl
def o_w_Edge_ends_1 : List IS := [im 1 1 (mBox (tg 0)),
  ip 2 (pMov (cv (.int .i64 0))),
  ip 3 (pMov (cv (.int .i64 0)))]
@[simp] def o_w_Edge_ends_1_ap := ops_rule (c := o_w_Edge_ends_1) rfl
def o_w_Edge_ends_2 : List IS := [ip 4 (pFaddr 0 (tg 1)),
  il 5 (tg 4) (mLoad1 (tg 4))]
@[simp] def o_w_Edge_ends_2_ap := ops_rule (c := o_w_Edge_ends_2) rfl
def o_w_Edge_ends_3 : List IS := [ip 7 (pBin .eql (tg 5) (cv (.int .i64 1))),
  ip 6 (pMov (tg 7))]
@[simp] def o_w_Edge_ends_3_ap := ops_rule (c := o_w_Edge_ends_3) rfl
def o_w_Edge_ends_4 : List IS := [ip 8 (pBin .eql (tg 5) (cv (.int .i64 6))),
  ip 6 (pMov (tg 8))]
@[simp] def o_w_Edge_ends_4_ap := ops_rule (c := o_w_Edge_ends_4) rfl
def c_w_Edge_ends_1 : SC := sCond (tg 6) sSkip (sReg (seqI o_w_Edge_ends_4))
@[simp] def c_w_Edge_ends_1_ap := cond_rule (c := c_w_Edge_ends_1) rfl
def c_w_Edge_ends_2 : SC := sSeq (sReg (seqI o_w_Edge_ends_3)) c_w_Edge_ends_1
@[simp] def c_w_Edge_ends_2_ap := seq_rule (c := c_w_Edge_ends_2) rfl
def o_w_Edge_ends_5 : List IS := [ip 2 (pMov (cv (.int .i64 2))),
  ip 3 (pMov (cv (.int .i64 1)))]
@[simp] def o_w_Edge_ends_5_ap := ops_rule (c := o_w_Edge_ends_5) rfl
def c_w_Edge_ends_3 : SC := sSeq (sReg (seqI o_w_Edge_ends_5)) sRet
@[simp] def c_w_Edge_ends_3_ap := seq_rule (c := c_w_Edge_ends_3) rfl
def o_w_Edge_ends_6 : List IS := [ip 10 (pBin .eql (tg 5) (cv (.int .i64 2))),
  ip 9 (pMov (tg 10))]
@[simp] def o_w_Edge_ends_6_ap := ops_rule (c := o_w_Edge_ends_6) rfl
def o_w_Edge_ends_7 : List IS := [ip 11 (pBin .eql (tg 5) (cv (.int .i64 5))),
  ip 9 (pMov (tg 11))]
@[simp] def o_w_Edge_ends_7_ap := ops_rule (c := o_w_Edge_ends_7) rfl
def c_w_Edge_ends_4 : SC := sCond (tg 9) sSkip (sReg (seqI o_w_Edge_ends_7))
@[simp] def c_w_Edge_ends_4_ap := cond_rule (c := c_w_Edge_ends_4) rfl
def c_w_Edge_ends_5 : SC := sSeq (sReg (seqI o_w_Edge_ends_6)) c_w_Edge_ends_4
@[simp] def c_w_Edge_ends_5_ap := seq_rule (c := c_w_Edge_ends_5) rfl
def o_w_Edge_ends_8 : List IS := [ip 2 (pMov (cv (.int .i64 1))),
  ip 3 (pMov (cv (.int .i64 2)))]
@[simp] def o_w_Edge_ends_8_ap := ops_rule (c := o_w_Edge_ends_8) rfl
def c_w_Edge_ends_6 : SC := sSeq (sReg (seqI o_w_Edge_ends_8)) sRet
@[simp] def c_w_Edge_ends_6_ap := seq_rule (c := c_w_Edge_ends_6) rfl
def o_w_Edge_ends_9 : List IS := [ip 13 (pBin .eql (tg 5) (cv (.int .i64 4))),
  ip 12 (pMov (tg 13))]
@[simp] def o_w_Edge_ends_9_ap := ops_rule (c := o_w_Edge_ends_9) rfl
def o_w_Edge_ends_10 : List IS := [ip 2 (pMov (cv (.int .i64 1))),
  ip 3 (pMov (cv (.int .i64 1)))]
@[simp] def o_w_Edge_ends_10_ap := ops_rule (c := o_w_Edge_ends_10) rfl
def c_w_Edge_ends_7 : SC := sSeq (sReg (seqI o_w_Edge_ends_10)) sRet
@[simp] def c_w_Edge_ends_7_ap := seq_rule (c := c_w_Edge_ends_7) rfl
def c_w_Edge_ends_8 : SC := sCond (tg 12) c_w_Edge_ends_7 sSkip
@[simp] def c_w_Edge_ends_8_ap := cond_rule (c := c_w_Edge_ends_8) rfl
def c_w_Edge_ends_9 : SC := sSeq (sReg (seqI o_w_Edge_ends_9)) c_w_Edge_ends_8
@[simp] def c_w_Edge_ends_9_ap := seq_rule (c := c_w_Edge_ends_9) rfl
def c_w_Edge_ends_10 : SC := sCond (tg 9) c_w_Edge_ends_6 c_w_Edge_ends_9
@[simp] def c_w_Edge_ends_10_ap := cond_rule (c := c_w_Edge_ends_10) rfl
def c_w_Edge_ends_11 : SC := sSeq c_w_Edge_ends_5 c_w_Edge_ends_10
@[simp] def c_w_Edge_ends_11_ap := seq_rule (c := c_w_Edge_ends_11) rfl
def c_w_Edge_ends_12 : SC := sCond (tg 6) c_w_Edge_ends_3 c_w_Edge_ends_11
@[simp] def c_w_Edge_ends_12_ap := cond_rule (c := c_w_Edge_ends_12) rfl
def c_w_Edge_ends_13 : SC := sSeq c_w_Edge_ends_2 c_w_Edge_ends_12
@[simp] def c_w_Edge_ends_13_ap := seq_rule (c := c_w_Edge_ends_13) rfl
def c_w_Edge_ends_14 : SC := sBlock 0 c_w_Edge_ends_13
@[simp] def c_w_Edge_ends_14_ap := block_rule (c := c_w_Edge_ends_14) rfl
def c_w_Edge_ends_15 : SC := sSeq (sReg (seqI o_w_Edge_ends_2)) c_w_Edge_ends_14
@[simp] def c_w_Edge_ends_15_ap := seq_rule (c := c_w_Edge_ends_15) rfl
def o_w_Edge_ends_11 : List IS := [ip 2 (pMov (cv (.int .i64 2))),
  ip 3 (pMov (cv (.int .i64 2)))]
@[simp] def o_w_Edge_ends_11_ap := ops_rule (c := o_w_Edge_ends_11) rfl
def c_w_Edge_ends_16 : SC := sSeq (sReg (seqI o_w_Edge_ends_11)) sRet
@[simp] def c_w_Edge_ends_16_ap := seq_rule (c := c_w_Edge_ends_16) rfl
def c_w_Edge_ends_17 : SC := sSeq c_w_Edge_ends_15 c_w_Edge_ends_16
@[simp] def c_w_Edge_ends_17_ap := seq_rule (c := c_w_Edge_ends_17) rfl
def c_w_Edge_ends_18 : SC := sSeq (sReg (seqI o_w_Edge_ends_1)) c_w_Edge_ends_17
@[simp] def c_w_Edge_ends_18_ap := seq_rule (c := c_w_Edge_ends_18) rfl
def d_w_Edge_ends : DFn := ⟨c_w_Edge_ends_18, 14, [.t 2, .t 3]⟩
theorem d_w_Edge_ends_ok : fnOf Try.prog 72 = some d_w_Edge_ends := by kernel_rfl
def o_r_Outer_1 : List IS := [im 1 1 (mBox (tg 0)),
  ip 2 (pMov (cv (.bool false)))]
@[simp] def o_r_Outer_1_ap := ops_rule (c := o_r_Outer_1) rfl
def o_r_Outer_2 : List IS := [ip 3 (pFaddr 0 (tg 1)),
  il 4 (tg 3) (mLoad1 (tg 3)),
  ip 5 (pBin .leq (tg 4) (cv (.int .i64 3))),
  ip 2 (pMov (tg 5))]
@[simp] def o_r_Outer_2_ap := ops_rule (c := o_r_Outer_2) rfl
def c_r_Outer_1 : SC := sSeq (sReg (seqI o_r_Outer_2)) sRet
@[simp] def c_r_Outer_1_ap := seq_rule (c := c_r_Outer_1) rfl
def c_r_Outer_2 : SC := sSeq (sReg (seqI o_r_Outer_1)) c_r_Outer_1
@[simp] def c_r_Outer_2_ap := seq_rule (c := c_r_Outer_2) rfl
def d_r_Outer : DFn := ⟨c_r_Outer_2, 6, [.t 2]⟩
theorem d_r_Outer_ok : fnOf Try.prog 73 = some d_r_Outer := by kernel_rfl
def o_r_ahead_1 : List IS := [im 1 2 (mBox (tg 0)),
  ip 4 (pMov (cv (.int .i64 0)))]
@[simp] def o_r_ahead_1_ap := ops_rule (c := o_r_ahead_1) rfl
def o_r_ahead_2 : List IS := [ip 5 (pMov (tg 1)),
  ip 6 (pBin .eql (tg 5) (cv (.int .i64 0)))]
@[simp] def o_r_ahead_2_ap := ops_rule (c := o_r_ahead_2) rfl
def o_r_ahead_3 : List IS := [ip 7 (pFaddr 0 (tg 2)),
  il 8 (tg 7) (mLoad1 (tg 7)),
  ip 9 (pLen (tg 8)),
  ip 10 (pBin .sub (tg 9) (cv (.int .i64 1))),
  ip 4 (pMov (tg 10))]
@[simp] def o_r_ahead_3_ap := ops_rule (c := o_r_ahead_3) rfl
def c_r_ahead_1 : SC := sSeq (sReg (seqI o_r_ahead_3)) sRet
@[simp] def c_r_ahead_1_ap := seq_rule (c := c_r_ahead_1) rfl
def c_r_ahead_2 : SC := sCond (tg 6) c_r_ahead_1 sSkip
@[simp] def c_r_ahead_2_ap := cond_rule (c := c_r_ahead_2) rfl
def c_r_ahead_3 : SC := sSeq (sReg (seqI o_r_ahead_2)) c_r_ahead_2
@[simp] def c_r_ahead_3_ap := seq_rule (c := c_r_ahead_3) rfl
def o_r_ahead_4 : List IS := [ip 11 (pMov (tg 1)),
  ip 12 (pBin .sub (tg 11) (cv (.int .i64 1))),
  ip 4 (pMov (tg 12))]
@[simp] def o_r_ahead_4_ap := ops_rule (c := o_r_ahead_4) rfl
def c_r_ahead_4 : SC := sSeq (sReg (seqI o_r_ahead_4)) sRet
@[simp] def c_r_ahead_4_ap := seq_rule (c := c_r_ahead_4) rfl
def c_r_ahead_5 : SC := sSeq c_r_ahead_3 c_r_ahead_4
@[simp] def c_r_ahead_5_ap := seq_rule (c := c_r_ahead_5) rfl
def c_r_ahead_6 : SC := sSeq (sReg (seqI o_r_ahead_1)) c_r_ahead_5
@[simp] def c_r_ahead_6_ap := seq_rule (c := c_r_ahead_6) rfl
def d_r_ahead : DFn := ⟨c_r_ahead_6, 13, [.t 4]⟩
theorem d_r_ahead_ok : fnOf Try.prog 74 = some d_r_ahead := by kernel_rfl
def o_r_Begin_1 : List IS := [im 1 1 (mBox (tg 0)),
  ip 2 (pMov (cv (.int .i64 0)))]
@[simp] def o_r_Begin_1_ap := ops_rule (c := o_r_Begin_1) rfl
def o_r_Begin_2 : List IS := [ip 3 (pMov (cv (.int .i64 0)))]
@[simp] def o_r_Begin_2_ap := ops_rule (c := o_r_Begin_2) rfl
def o_r_Begin_3 : List DA := [⟨CI.pure (pFaddr 0 (tg 1)), (some 4), none, 0, []⟩,
  ⟨CI.load (tg 4) (mLoad1 (tg 4)), (some 5), none, 1, []⟩,
  ⟨CI.load (tg 1) (mLoadN 2 (tg 1)), (some 6), none, 2, []⟩,
  ⟨CI.pure (pMov (tg 3)), (some 7), none, 3, []⟩,
  ⟨CI.mem 3 (mCall 74 [(tg 6), (tg 7)]), (some 8), none, 4, [1]⟩,
  ⟨CI.pure (pIaddrS 2 (tg 5) (tg 8)), (some 9), none, 5, []⟩,
  ⟨CI.load (tg 9) (mLoadN 2 (tg 9)), (some 10), none, 6, []⟩,
  ⟨CI.mem 3 (mCall 73 [(tg 10)]), (some 11), none, 7, []⟩,
  ⟨CI.pure (pUn .not (tg 11)), (some 12), none, 8, []⟩]
@[simp] def o_r_Begin_3_ap := das_rule (c := o_r_Begin_3) rfl
def c_r_Begin_1 : SC := sCond (tg 12) sSkip (sExit 0)
@[simp] def c_r_Begin_1_ap := cond_rule (c := c_r_Begin_1) rfl
def c_r_Begin_2 : SC := sSeq (sAny o_r_Begin_3) c_r_Begin_1
@[simp] def c_r_Begin_2_ap := seq_rule (c := c_r_Begin_2) rfl
def o_r_Begin_4 : List IS := [ip 13 (pMov (tg 3)),
  ip 14 (pBin .add (tg 13) (cv (.int .i64 1))),
  ip 3 (pMov (tg 14))]
@[simp] def o_r_Begin_4_ap := ops_rule (c := o_r_Begin_4) rfl
def c_r_Begin_3 : SC := sBlock 1 (sReg (seqI o_r_Begin_4))
@[simp] def c_r_Begin_3_ap := block_rule (c := c_r_Begin_3) rfl
def c_r_Begin_4 : SC := sSeq c_r_Begin_2 c_r_Begin_3
@[simp] def c_r_Begin_4_ap := seq_rule (c := c_r_Begin_4) rfl
def c_r_Begin_5 : SC := sLoop c_r_Begin_4
def c_r_Begin_6 : SC := sBlock 0 c_r_Begin_5
@[simp] def c_r_Begin_6_ap := block_rule (c := c_r_Begin_6) rfl
def o_r_Begin_5 : List IS := [ip 15 (pMov (tg 3)),
  ip 2 (pMov (tg 15))]
@[simp] def o_r_Begin_5_ap := ops_rule (c := o_r_Begin_5) rfl
def c_r_Begin_7 : SC := sSeq (sReg (seqI o_r_Begin_5)) sRet
@[simp] def c_r_Begin_7_ap := seq_rule (c := c_r_Begin_7) rfl
def c_r_Begin_8 : SC := sSeq c_r_Begin_6 c_r_Begin_7
@[simp] def c_r_Begin_8_ap := seq_rule (c := c_r_Begin_8) rfl
def c_r_Begin_9 : SC := sSeq (sReg (seqI o_r_Begin_2)) c_r_Begin_8
@[simp] def c_r_Begin_9_ap := seq_rule (c := c_r_Begin_9) rfl
def c_r_Begin_10 : SC := sSeq (sReg (seqI o_r_Begin_1)) c_r_Begin_9
@[simp] def c_r_Begin_10_ap := seq_rule (c := c_r_Begin_10) rfl
def d_r_Begin : DFn := ⟨c_r_Begin_10, 16, [.t 2]⟩
theorem d_r_Begin_ok : fnOf Try.prog 75 = some d_r_Begin := by kernel_rfl
def o_r_rank_1 : List IS := [im 1 3 (mBox (tg 0)),
  ip 6 (pMov (cv (.int .i64 0)))]
@[simp] def o_r_rank_1_ap := ops_rule (c := o_r_rank_1) rfl
def o_r_rank_2 : List IS := [ip 7 (pMov (cv (.slice none 0 0)))]
@[simp] def o_r_rank_2_ap := ops_rule (c := o_r_rank_2) rfl
def o_r_rank_3 : List IS := [il 11 (tg 3) (mLoadN 2 (tg 3)),
  im 3 12 (mCall 44 [(tg 11)]),
  ip 8 (pMov (tg 12))]
@[simp] def o_r_rank_3_ap := ops_rule (c := o_r_rank_3) rfl
def o_r_rank_4 : List IS := [ip 9 (pMov (cv (.int .i64 0)))]
@[simp] def o_r_rank_4_ap := ops_rule (c := o_r_rank_4) rfl
def o_r_rank_5 : List IS := [ip 13 (pMov (tg 9)),
  ip 14 (pMov (tg 8)),
  ip 15 (pLen (tg 14)),
  ip 16 (pBin .lss (tg 13) (tg 15))]
@[simp] def o_r_rank_5_ap := ops_rule (c := o_r_rank_5) rfl
def c_r_rank_1 : SC := sCond (tg 16) sSkip (sExit 0)
@[simp] def c_r_rank_1_ap := cond_rule (c := c_r_rank_1) rfl
def c_r_rank_2 : SC := sSeq (sReg (seqI o_r_rank_5)) c_r_rank_1
@[simp] def c_r_rank_2_ap := seq_rule (c := c_r_rank_2) rfl
def o_r_rank_6 : List DA := [⟨CI.load (tg 3) (mLoadN 2 (tg 3)), (some 19), none, 0, []⟩,
  ⟨CI.pure (pMov (tg 8)), (some 20), none, 1, []⟩,
  ⟨CI.pure (pMov (tg 9)), (some 21), none, 2, []⟩,
  ⟨CI.pure (pIaddrS 1 (tg 20) (tg 21)), (some 22), none, 3, []⟩,
  ⟨CI.load (tg 22) (mLoad1 (tg 22)), (some 23), none, 4, []⟩,
  ⟨CI.pure (pMov (tg 2)), (some 24), none, 5, []⟩,
  ⟨CI.mem 3 (mCall 77 [(tg 19), (tg 23), (tg 24)]), (some 25), none, 6, []⟩,
  ⟨CI.pure (pMov (tg 25)), (some 10), none, 7, []⟩]
@[simp] def o_r_rank_6_ap := das_rule (c := o_r_rank_6) rfl
def o_r_rank_7 : List IS := [ip 26 (pMov (tg 10)),
  ip 27 (pMov (tg 1)),
  ip 28 (pBin .eql (tg 26) (tg 27))]
@[simp] def o_r_rank_7_ap := ops_rule (c := o_r_rank_7) rfl
def o_r_rank_8 : List IS := [ip 29 (pMov (tg 7)),
  ip 30 (pLen (tg 29)),
  ip 6 (pMov (tg 30))]
@[simp] def o_r_rank_8_ap := ops_rule (c := o_r_rank_8) rfl
def c_r_rank_3 : SC := sSeq (sReg (seqI o_r_rank_8)) sRet
@[simp] def c_r_rank_3_ap := seq_rule (c := c_r_rank_3) rfl
def c_r_rank_4 : SC := sCond (tg 28) c_r_rank_3 sSkip
@[simp] def c_r_rank_4_ap := cond_rule (c := c_r_rank_4) rfl
def c_r_rank_5 : SC := sSeq (sReg (seqI o_r_rank_7)) c_r_rank_4
@[simp] def c_r_rank_5_ap := seq_rule (c := c_r_rank_5) rfl
def o_r_rank_9 : List IS := [ip 31 (pMov (tg 7)),
  ip 32 (pLen (tg 31)),
  ip 33 (pBin .eql (tg 32) (cv (.int .i64 0))),
  ip 34 (pMov (tg 33)),
  gd 34 false (some 35) (ip 35 (pMov (tg 7))),
  gd 34 false (some 36) (ip 36 (pMov (tg 10))),
  gd 34 false (some 37) (im 3 37 (mCall 89 [(tg 35), (tg 36)])),
  gd 34 false (some 38) (ip 38 (pUn .not (tg 37))),
  ip 39 (pPick (tg 34) (cv (.bool true)) (tg 38))]
@[simp] def o_r_rank_9_ap := ops_rule (c := o_r_rank_9) rfl
def o_r_rank_10 : List IS := [ip 40 (pMov (tg 7)),
  ip 41 (pMov (tg 10)),
  im 1 42 (mBslice 1 1 (rep 1 [(.int .i64 0)]) [(0, 1, (tg 41))]),
  im 3 43 (mAppend 1 8 (tg 40) (tg 42)),
  ip 7 (pMov (tg 43))]
@[simp] def o_r_rank_10_ap := ops_rule (c := o_r_rank_10) rfl
def c_r_rank_6 : SC := sCond (tg 39) (sReg (seqI o_r_rank_10)) sSkip
@[simp] def c_r_rank_6_ap := cond_rule (c := c_r_rank_6) rfl
def c_r_rank_7 : SC := sSeq (sReg (seqI o_r_rank_9)) c_r_rank_6
@[simp] def c_r_rank_7_ap := seq_rule (c := c_r_rank_7) rfl
def c_r_rank_8 : SC := sSeq c_r_rank_5 c_r_rank_7
@[simp] def c_r_rank_8_ap := seq_rule (c := c_r_rank_8) rfl
def c_r_rank_9 : SC := sSeq (sAny o_r_rank_6) c_r_rank_8
@[simp] def c_r_rank_9_ap := seq_rule (c := c_r_rank_9) rfl
def c_r_rank_10 : SC := sBlock 1 c_r_rank_9
@[simp] def c_r_rank_10_ap := block_rule (c := c_r_rank_10) rfl
def o_r_rank_11 : List IS := [ip 17 (pMov (tg 9)),
  ip 18 (pBin .add (tg 17) (cv (.int .i64 1))),
  ip 9 (pMov (tg 18))]
@[simp] def o_r_rank_11_ap := ops_rule (c := o_r_rank_11) rfl
def c_r_rank_11 : SC := sSeq c_r_rank_10 (sReg (seqI o_r_rank_11))
@[simp] def c_r_rank_11_ap := seq_rule (c := c_r_rank_11) rfl
def c_r_rank_12 : SC := sSeq c_r_rank_2 c_r_rank_11
@[simp] def c_r_rank_12_ap := seq_rule (c := c_r_rank_12) rfl
def c_r_rank_13 : SC := sLoop c_r_rank_12
def c_r_rank_14 : SC := sBlock 0 c_r_rank_13
@[simp] def c_r_rank_14_ap := block_rule (c := c_r_rank_14) rfl
def c_r_rank_15 : SC := sSeq (sReg (seqI o_r_rank_4)) c_r_rank_14
@[simp] def c_r_rank_15_ap := seq_rule (c := c_r_rank_15) rfl
def o_r_rank_12 : List IS := [ip 6 (pMov (cv (.int .i64 (-1))))]
@[simp] def o_r_rank_12_ap := ops_rule (c := o_r_rank_12) rfl
def c_r_rank_16 : SC := sSeq (sReg (seqI o_r_rank_12)) sRet
@[simp] def c_r_rank_16_ap := seq_rule (c := c_r_rank_16) rfl
def c_r_rank_17 : SC := sSeq c_r_rank_15 c_r_rank_16
@[simp] def c_r_rank_17_ap := seq_rule (c := c_r_rank_17) rfl
def c_r_rank_18 : SC := sSeq (sReg (seqI o_r_rank_3)) c_r_rank_17
@[simp] def c_r_rank_18_ap := seq_rule (c := c_r_rank_18) rfl
def c_r_rank_19 : SC := sSeq (sReg (seqI o_r_rank_2)) c_r_rank_18
@[simp] def c_r_rank_19_ap := seq_rule (c := c_r_rank_19) rfl
def c_r_rank_20 : SC := sSeq (sReg (seqI o_r_rank_1)) c_r_rank_19
@[simp] def c_r_rank_20_ap := seq_rule (c := c_r_rank_20) rfl
def d_r_rank : DFn := ⟨c_r_rank_20, 44, [.t 6]⟩
theorem d_r_rank_ok : fnOf Try.prog 76 = some d_r_rank := by kernel_rfl
def o_r_root_1 : List IS := [im 1 3 (mBox (tg 0)),
  ip 6 (pMov (cv (.int .i64 0)))]
@[simp] def o_r_root_1_ap := ops_rule (c := o_r_root_1) rfl
def o_r_root_2 : List IS := [ip 7 (pMov (cv (.int .i64 0)))]
@[simp] def o_r_root_2_ap := ops_rule (c := o_r_root_2) rfl
def o_r_root_3 : List DA := [⟨CI.pure (pMov (tg 7)), (some 8), none, 0, []⟩,
  ⟨CI.pure (pFaddr 0 (tg 3)), (some 9), none, 1, []⟩,
  ⟨CI.load (tg 9) (mLoad1 (tg 9)), (some 10), none, 2, []⟩,
  ⟨CI.pure (pLen (tg 10)), (some 11), none, 3, []⟩,
  ⟨CI.pure (pBin .lss (tg 8) (tg 11)), (some 12), none, 4, []⟩,
  ⟨CI.pure (pMov (tg 12)), (some 13), none, 5, []⟩,
  ⟨CI.pure (pFaddr 0 (tg 3)), (some 14), (some (13, true)), 6, []⟩,
  ⟨CI.load (tg 14) (mLoad1 (tg 14)), (some 15), (some (13, true)), 7, []⟩,
  ⟨CI.load (tg 3) (mLoadN 2 (tg 3)), (some 16), (some (13, true)), 8, []⟩,
  ⟨CI.pure (pMov (tg 1)), (some 17), (some (13, true)), 9, []⟩,
  ⟨CI.mem 3 (mCall 74 [(tg 16), (tg 17)]), (some 18), (some (13, true)), 10, [7]⟩,
  ⟨CI.pure (pIaddrS 2 (tg 15) (tg 18)), (some 19), (some (13, true)), 11, []⟩,
  ⟨CI.load (tg 19) (mLoadN 2 (tg 19)), (some 20), (some (13, true)), 12, []⟩,
  ⟨CI.mem 3 (mCall 73 [(tg 20)]), (some 21), (some (13, true)), 13, []⟩,
  ⟨CI.pure (pMov (tg 2)), (some 22), (some (13, true)), 14, []⟩,
  ⟨CI.pure (pEqB false (tg 21) (tg 22)), (some 23), (some (13, true)), 15, []⟩,
  ⟨CI.pure (pPick (tg 13) (tg 23) (cv (.bool false))), (some 24), none, 16, []⟩]
@[simp] def o_r_root_3_ap := das_rule (c := o_r_root_3) rfl
def c_r_root_1 : SC := sCond (tg 24) sSkip (sExit 0)
@[simp] def c_r_root_1_ap := cond_rule (c := c_r_root_1) rfl
def c_r_root_2 : SC := sSeq (sAny o_r_root_3) c_r_root_1
@[simp] def c_r_root_2_ap := seq_rule (c := c_r_root_2) rfl
def o_r_root_4 : List IS := [il 27 (tg 3) (mLoadN 2 (tg 3)),
  ip 28 (pMov (tg 1)),
  im 3 29 (mCall 74 [(tg 27), (tg 28)]),
  ip 1 (pMov (tg 29))]
@[simp] def o_r_root_4_ap := ops_rule (c := o_r_root_4) rfl
def c_r_root_3 : SC := sBlock 1 (sReg (seqI o_r_root_4))
@[simp] def c_r_root_3_ap := block_rule (c := c_r_root_3) rfl
def o_r_root_5 : List IS := [ip 25 (pMov (tg 7)),
  ip 26 (pBin .add (tg 25) (cv (.int .i64 1))),
  ip 7 (pMov (tg 26))]
@[simp] def o_r_root_5_ap := ops_rule (c := o_r_root_5) rfl
def c_r_root_4 : SC := sSeq c_r_root_3 (sReg (seqI o_r_root_5))
@[simp] def c_r_root_4_ap := seq_rule (c := c_r_root_4) rfl
def c_r_root_5 : SC := sSeq c_r_root_2 c_r_root_4
@[simp] def c_r_root_5_ap := seq_rule (c := c_r_root_5) rfl
def c_r_root_6 : SC := sLoop c_r_root_5
def c_r_root_7 : SC := sBlock 0 c_r_root_6
@[simp] def c_r_root_7_ap := block_rule (c := c_r_root_7) rfl
def c_r_root_8 : SC := sSeq (sReg (seqI o_r_root_2)) c_r_root_7
@[simp] def c_r_root_8_ap := seq_rule (c := c_r_root_8) rfl
def o_r_root_6 : List IS := [ip 30 (pMov (tg 1)),
  ip 6 (pMov (tg 30))]
@[simp] def o_r_root_6_ap := ops_rule (c := o_r_root_6) rfl
def c_r_root_9 : SC := sSeq (sReg (seqI o_r_root_6)) sRet
@[simp] def c_r_root_9_ap := seq_rule (c := c_r_root_9) rfl
def c_r_root_10 : SC := sSeq c_r_root_8 c_r_root_9
@[simp] def c_r_root_10_ap := seq_rule (c := c_r_root_10) rfl
def c_r_root_11 : SC := sSeq (sReg (seqI o_r_root_1)) c_r_root_10
@[simp] def c_r_root_11_ap := seq_rule (c := c_r_root_11) rfl
def d_r_root : DFn := ⟨c_r_root_11, 31, [.t 6]⟩
theorem d_r_root_ok : fnOf Try.prog 77 = some d_r_root := by kernel_rfl
def o_s_IndexFunc_weave_Edge_weave_Edge_1 : List IS := [ip 4 (pMov (cv (.int .i64 0)))]
@[simp] def o_s_IndexFunc_weave_Edge_weave_Edge_1_ap := ops_rule (c := o_s_IndexFunc_weave_Edge_weave_Edge_1) rfl
def o_s_IndexFunc_weave_Edge_weave_Edge_2 : List IS := [ip 6 (pMov (tg 0)),
  ip 7 (pLen (tg 6)),
  ip 8 (pMov (cv (.int .i64 0)))]
@[simp] def o_s_IndexFunc_weave_Edge_weave_Edge_2_ap := ops_rule (c := o_s_IndexFunc_weave_Edge_weave_Edge_2) rfl
def o_s_IndexFunc_weave_Edge_weave_Edge_3 : List IS := [ip 9 (pBin .lss (tg 8) (tg 7))]
@[simp] def o_s_IndexFunc_weave_Edge_weave_Edge_3_ap := ops_rule (c := o_s_IndexFunc_weave_Edge_weave_Edge_3) rfl
def c_s_IndexFunc_weave_Edge_weave_Edge_1 : SC := sCond (tg 9) sSkip (sExit 0)
@[simp] def c_s_IndexFunc_weave_Edge_weave_Edge_1_ap := cond_rule (c := c_s_IndexFunc_weave_Edge_weave_Edge_1) rfl
def o_s_IndexFunc_weave_Edge_weave_Edge_4 : List IS := [ip 10 (pMov (tg 8)),
  ip 5 (pMov (tg 10))]
@[simp] def o_s_IndexFunc_weave_Edge_weave_Edge_4_ap := ops_rule (c := o_s_IndexFunc_weave_Edge_weave_Edge_4) rfl
def o_s_IndexFunc_weave_Edge_weave_Edge_5 : List IS := [ip 11 (pMov (tg 1)),
  ip 12 (pMov (tg 0)),
  ip 13 (pMov (tg 5)),
  ip 14 (pIaddrS 2 (tg 12) (tg 13)),
  il 15 (tg 14) (mLoadN 2 (tg 14)),
  im 3 16 (mCallv (tg 11) [(tg 15)])]
@[simp] def o_s_IndexFunc_weave_Edge_weave_Edge_5_ap := ops_rule (c := o_s_IndexFunc_weave_Edge_weave_Edge_5) rfl
def o_s_IndexFunc_weave_Edge_weave_Edge_6 : List IS := [ip 17 (pMov (tg 5)),
  ip 4 (pMov (tg 17))]
@[simp] def o_s_IndexFunc_weave_Edge_weave_Edge_6_ap := ops_rule (c := o_s_IndexFunc_weave_Edge_weave_Edge_6) rfl
def c_s_IndexFunc_weave_Edge_weave_Edge_2 : SC := sSeq (sReg (seqI o_s_IndexFunc_weave_Edge_weave_Edge_6)) sRet
@[simp] def c_s_IndexFunc_weave_Edge_weave_Edge_2_ap := seq_rule (c := c_s_IndexFunc_weave_Edge_weave_Edge_2) rfl
def c_s_IndexFunc_weave_Edge_weave_Edge_3 : SC := sCond (tg 16) c_s_IndexFunc_weave_Edge_weave_Edge_2 sSkip
@[simp] def c_s_IndexFunc_weave_Edge_weave_Edge_3_ap := cond_rule (c := c_s_IndexFunc_weave_Edge_weave_Edge_3) rfl
def c_s_IndexFunc_weave_Edge_weave_Edge_4 : SC := sSeq (sReg (seqI o_s_IndexFunc_weave_Edge_weave_Edge_5)) c_s_IndexFunc_weave_Edge_weave_Edge_3
@[simp] def c_s_IndexFunc_weave_Edge_weave_Edge_4_ap := seq_rule (c := c_s_IndexFunc_weave_Edge_weave_Edge_4) rfl
def c_s_IndexFunc_weave_Edge_weave_Edge_5 : SC := sSeq (sReg (seqI o_s_IndexFunc_weave_Edge_weave_Edge_4)) c_s_IndexFunc_weave_Edge_weave_Edge_4
@[simp] def c_s_IndexFunc_weave_Edge_weave_Edge_5_ap := seq_rule (c := c_s_IndexFunc_weave_Edge_weave_Edge_5) rfl
def c_s_IndexFunc_weave_Edge_weave_Edge_6 : SC := sBlock 1 c_s_IndexFunc_weave_Edge_weave_Edge_5
@[simp] def c_s_IndexFunc_weave_Edge_weave_Edge_6_ap := block_rule (c := c_s_IndexFunc_weave_Edge_weave_Edge_6) rfl
def o_s_IndexFunc_weave_Edge_weave_Edge_7 : List IS := [ip 18 (pBin .add (tg 8) (cv (.int .i64 1))),
  ip 8 (pMov (tg 18))]
@[simp] def o_s_IndexFunc_weave_Edge_weave_Edge_7_ap := ops_rule (c := o_s_IndexFunc_weave_Edge_weave_Edge_7) rfl
def c_s_IndexFunc_weave_Edge_weave_Edge_7 : SC := sSeq c_s_IndexFunc_weave_Edge_weave_Edge_6 (sReg (seqI o_s_IndexFunc_weave_Edge_weave_Edge_7))
@[simp] def c_s_IndexFunc_weave_Edge_weave_Edge_7_ap := seq_rule (c := c_s_IndexFunc_weave_Edge_weave_Edge_7) rfl
def c_s_IndexFunc_weave_Edge_weave_Edge_8 : SC := sSeq c_s_IndexFunc_weave_Edge_weave_Edge_1 c_s_IndexFunc_weave_Edge_weave_Edge_7
@[simp] def c_s_IndexFunc_weave_Edge_weave_Edge_8_ap := seq_rule (c := c_s_IndexFunc_weave_Edge_weave_Edge_8) rfl
def c_s_IndexFunc_weave_Edge_weave_Edge_9 : SC := sSeq (sReg (seqI o_s_IndexFunc_weave_Edge_weave_Edge_3)) c_s_IndexFunc_weave_Edge_weave_Edge_8
@[simp] def c_s_IndexFunc_weave_Edge_weave_Edge_9_ap := seq_rule (c := c_s_IndexFunc_weave_Edge_weave_Edge_9) rfl
def c_s_IndexFunc_weave_Edge_weave_Edge_10 : SC := sLoop c_s_IndexFunc_weave_Edge_weave_Edge_9
def c_s_IndexFunc_weave_Edge_weave_Edge_11 : SC := sBlock 0 c_s_IndexFunc_weave_Edge_weave_Edge_10
@[simp] def c_s_IndexFunc_weave_Edge_weave_Edge_11_ap := block_rule (c := c_s_IndexFunc_weave_Edge_weave_Edge_11) rfl
def c_s_IndexFunc_weave_Edge_weave_Edge_12 : SC := sSeq (sReg (seqI o_s_IndexFunc_weave_Edge_weave_Edge_2)) c_s_IndexFunc_weave_Edge_weave_Edge_11
@[simp] def c_s_IndexFunc_weave_Edge_weave_Edge_12_ap := seq_rule (c := c_s_IndexFunc_weave_Edge_weave_Edge_12) rfl
def o_s_IndexFunc_weave_Edge_weave_Edge_8 : List IS := [ip 4 (pMov (cv (.int .i64 (-1))))]
@[simp] def o_s_IndexFunc_weave_Edge_weave_Edge_8_ap := ops_rule (c := o_s_IndexFunc_weave_Edge_weave_Edge_8) rfl
def c_s_IndexFunc_weave_Edge_weave_Edge_13 : SC := sSeq (sReg (seqI o_s_IndexFunc_weave_Edge_weave_Edge_8)) sRet
@[simp] def c_s_IndexFunc_weave_Edge_weave_Edge_13_ap := seq_rule (c := c_s_IndexFunc_weave_Edge_weave_Edge_13) rfl
def c_s_IndexFunc_weave_Edge_weave_Edge_14 : SC := sSeq c_s_IndexFunc_weave_Edge_weave_Edge_12 c_s_IndexFunc_weave_Edge_weave_Edge_13
@[simp] def c_s_IndexFunc_weave_Edge_weave_Edge_14_ap := seq_rule (c := c_s_IndexFunc_weave_Edge_weave_Edge_14) rfl
def c_s_IndexFunc_weave_Edge_weave_Edge_15 : SC := sSeq (sReg (seqI o_s_IndexFunc_weave_Edge_weave_Edge_1)) c_s_IndexFunc_weave_Edge_weave_Edge_14
@[simp] def c_s_IndexFunc_weave_Edge_weave_Edge_15_ap := seq_rule (c := c_s_IndexFunc_weave_Edge_weave_Edge_15) rfl
def d_s_IndexFunc_weave_Edge_weave_Edge : DFn := ⟨c_s_IndexFunc_weave_Edge_weave_Edge_15, 19, [.t 4]⟩
theorem d_s_IndexFunc_weave_Edge_weave_Edge_ok : fnOf Try.prog 78 = some d_s_IndexFunc_weave_Edge_weave_Edge := by kernel_rfl
def o_s_Concat_weave_Edge_weave_Edge_1 : List IS := [ip 2 (pMov (cv (.slice none 0 0)))]
@[simp] def o_s_Concat_weave_Edge_weave_Edge_1_ap := ops_rule (c := o_s_Concat_weave_Edge_weave_Edge_1) rfl
def o_s_Concat_weave_Edge_weave_Edge_2 : List IS := [ip 3 (pMov (cv (.int .i64 0)))]
@[simp] def o_s_Concat_weave_Edge_weave_Edge_2_ap := ops_rule (c := o_s_Concat_weave_Edge_weave_Edge_2) rfl
def o_s_Concat_weave_Edge_weave_Edge_3 : List IS := [ip 9 (pMov (tg 0)),
  ip 10 (pLen (tg 9)),
  ip 11 (pMov (cv (.int .i64 0)))]
@[simp] def o_s_Concat_weave_Edge_weave_Edge_3_ap := ops_rule (c := o_s_Concat_weave_Edge_weave_Edge_3) rfl
def o_s_Concat_weave_Edge_weave_Edge_4 : List IS := [ip 12 (pBin .lss (tg 11) (tg 10))]
@[simp] def o_s_Concat_weave_Edge_weave_Edge_4_ap := ops_rule (c := o_s_Concat_weave_Edge_weave_Edge_4) rfl
def c_s_Concat_weave_Edge_weave_Edge_1 : SC := sCond (tg 12) sSkip (sExit 0)
@[simp] def c_s_Concat_weave_Edge_weave_Edge_1_ap := cond_rule (c := c_s_Concat_weave_Edge_weave_Edge_1) rfl
def o_s_Concat_weave_Edge_weave_Edge_5 : List IS := [ip 13 (pIaddrS 1 (tg 9) (tg 11)),
  il 14 (tg 13) (mLoad1 (tg 13)),
  ip 5 (pMov (tg 14))]
@[simp] def o_s_Concat_weave_Edge_weave_Edge_5_ap := ops_rule (c := o_s_Concat_weave_Edge_weave_Edge_5) rfl
def o_s_Concat_weave_Edge_weave_Edge_6 : List IS := [ip 15 (pMov (tg 3)),
  ip 16 (pMov (tg 5)),
  ip 17 (pLen (tg 16)),
  ip 18 (pBin .add (tg 15) (tg 17)),
  ip 3 (pMov (tg 18))]
@[simp] def o_s_Concat_weave_Edge_weave_Edge_6_ap := ops_rule (c := o_s_Concat_weave_Edge_weave_Edge_6) rfl
def o_s_Concat_weave_Edge_weave_Edge_7 : List IS := [ip 19 (pMov (tg 3)),
  ip 20 (pBin .lss (tg 19) (cv (.int .i64 0)))]
@[simp] def o_s_Concat_weave_Edge_weave_Edge_7_ap := ops_rule (c := o_s_Concat_weave_Edge_weave_Edge_7) rfl
def o_s_Concat_weave_Edge_weave_Edge_8 : List IS := [ip 21 (pMkif 9 (cv (.string ⟨#[108, 101, 110, 32, 111, 117, 116, 32, 111, 102, 32, 114, 97, 110, 103, 101]⟩))),
  runI CI.bad none]
@[simp] def o_s_Concat_weave_Edge_weave_Edge_8_ap := ops_rule (c := o_s_Concat_weave_Edge_weave_Edge_8) rfl
def c_s_Concat_weave_Edge_weave_Edge_2 : SC := sCond (tg 20) (sReg (seqI o_s_Concat_weave_Edge_weave_Edge_8)) sSkip
@[simp] def c_s_Concat_weave_Edge_weave_Edge_2_ap := cond_rule (c := c_s_Concat_weave_Edge_weave_Edge_2) rfl
def c_s_Concat_weave_Edge_weave_Edge_3 : SC := sSeq (sReg (seqI o_s_Concat_weave_Edge_weave_Edge_7)) c_s_Concat_weave_Edge_weave_Edge_2
@[simp] def c_s_Concat_weave_Edge_weave_Edge_3_ap := seq_rule (c := c_s_Concat_weave_Edge_weave_Edge_3) rfl
def c_s_Concat_weave_Edge_weave_Edge_4 : SC := sSeq (sReg (seqI o_s_Concat_weave_Edge_weave_Edge_6)) c_s_Concat_weave_Edge_weave_Edge_3
@[simp] def c_s_Concat_weave_Edge_weave_Edge_4_ap := seq_rule (c := c_s_Concat_weave_Edge_weave_Edge_4) rfl
def c_s_Concat_weave_Edge_weave_Edge_5 : SC := sSeq (sReg (seqI o_s_Concat_weave_Edge_weave_Edge_5)) c_s_Concat_weave_Edge_weave_Edge_4
@[simp] def c_s_Concat_weave_Edge_weave_Edge_5_ap := seq_rule (c := c_s_Concat_weave_Edge_weave_Edge_5) rfl
def c_s_Concat_weave_Edge_weave_Edge_6 : SC := sBlock 1 c_s_Concat_weave_Edge_weave_Edge_5
@[simp] def c_s_Concat_weave_Edge_weave_Edge_6_ap := block_rule (c := c_s_Concat_weave_Edge_weave_Edge_6) rfl
def o_s_Concat_weave_Edge_weave_Edge_9 : List IS := [ip 22 (pBin .add (tg 11) (cv (.int .i64 1))),
  ip 11 (pMov (tg 22))]
@[simp] def o_s_Concat_weave_Edge_weave_Edge_9_ap := ops_rule (c := o_s_Concat_weave_Edge_weave_Edge_9) rfl
def c_s_Concat_weave_Edge_weave_Edge_7 : SC := sSeq c_s_Concat_weave_Edge_weave_Edge_6 (sReg (seqI o_s_Concat_weave_Edge_weave_Edge_9))
@[simp] def c_s_Concat_weave_Edge_weave_Edge_7_ap := seq_rule (c := c_s_Concat_weave_Edge_weave_Edge_7) rfl
def c_s_Concat_weave_Edge_weave_Edge_8 : SC := sSeq c_s_Concat_weave_Edge_weave_Edge_1 c_s_Concat_weave_Edge_weave_Edge_7
@[simp] def c_s_Concat_weave_Edge_weave_Edge_8_ap := seq_rule (c := c_s_Concat_weave_Edge_weave_Edge_8) rfl
def c_s_Concat_weave_Edge_weave_Edge_9 : SC := sSeq (sReg (seqI o_s_Concat_weave_Edge_weave_Edge_4)) c_s_Concat_weave_Edge_weave_Edge_8
@[simp] def c_s_Concat_weave_Edge_weave_Edge_9_ap := seq_rule (c := c_s_Concat_weave_Edge_weave_Edge_9) rfl
def c_s_Concat_weave_Edge_weave_Edge_10 : SC := sLoop c_s_Concat_weave_Edge_weave_Edge_9
def c_s_Concat_weave_Edge_weave_Edge_11 : SC := sBlock 0 c_s_Concat_weave_Edge_weave_Edge_10
@[simp] def c_s_Concat_weave_Edge_weave_Edge_11_ap := block_rule (c := c_s_Concat_weave_Edge_weave_Edge_11) rfl
def c_s_Concat_weave_Edge_weave_Edge_12 : SC := sSeq (sReg (seqI o_s_Concat_weave_Edge_weave_Edge_3)) c_s_Concat_weave_Edge_weave_Edge_11
@[simp] def c_s_Concat_weave_Edge_weave_Edge_12_ap := seq_rule (c := c_s_Concat_weave_Edge_weave_Edge_12) rfl
def o_s_Concat_weave_Edge_weave_Edge_10 : List IS := [ip 23 (pMov (tg 3)),
  im 3 24 (mCall 90 [(cv (.slice none 0 0)), (tg 23)]),
  ip 6 (pMov (tg 24))]
@[simp] def o_s_Concat_weave_Edge_weave_Edge_10_ap := ops_rule (c := o_s_Concat_weave_Edge_weave_Edge_10) rfl
def o_s_Concat_weave_Edge_weave_Edge_11 : List IS := [ip 25 (pMov (tg 0)),
  ip 26 (pLen (tg 25)),
  ip 27 (pMov (cv (.int .i64 0)))]
@[simp] def o_s_Concat_weave_Edge_weave_Edge_11_ap := ops_rule (c := o_s_Concat_weave_Edge_weave_Edge_11) rfl
def o_s_Concat_weave_Edge_weave_Edge_12 : List IS := [ip 28 (pBin .lss (tg 27) (tg 26))]
@[simp] def o_s_Concat_weave_Edge_weave_Edge_12_ap := ops_rule (c := o_s_Concat_weave_Edge_weave_Edge_12) rfl
def c_s_Concat_weave_Edge_weave_Edge_13 : SC := sCond (tg 28) sSkip (sExit 2)
@[simp] def c_s_Concat_weave_Edge_weave_Edge_13_ap := cond_rule (c := c_s_Concat_weave_Edge_weave_Edge_13) rfl
def o_s_Concat_weave_Edge_weave_Edge_13 : List IS := [ip 29 (pIaddrS 1 (tg 25) (tg 27)),
  il 30 (tg 29) (mLoad1 (tg 29)),
  ip 8 (pMov (tg 30))]
@[simp] def o_s_Concat_weave_Edge_weave_Edge_13_ap := ops_rule (c := o_s_Concat_weave_Edge_weave_Edge_13) rfl
def o_s_Concat_weave_Edge_weave_Edge_14 : List IS := [ip 31 (pMov (tg 6)),
  ip 32 (pMov (tg 8)),
  im 3 33 (mAppend 2 16 (tg 31) (tg 32)),
  ip 6 (pMov (tg 33))]
@[simp] def o_s_Concat_weave_Edge_weave_Edge_14_ap := ops_rule (c := o_s_Concat_weave_Edge_weave_Edge_14) rfl
def c_s_Concat_weave_Edge_weave_Edge_14 : SC := sSeq (sReg (seqI o_s_Concat_weave_Edge_weave_Edge_13)) (sReg (seqI o_s_Concat_weave_Edge_weave_Edge_14))
@[simp] def c_s_Concat_weave_Edge_weave_Edge_14_ap := seq_rule (c := c_s_Concat_weave_Edge_weave_Edge_14) rfl
def c_s_Concat_weave_Edge_weave_Edge_15 : SC := sBlock 3 c_s_Concat_weave_Edge_weave_Edge_14
@[simp] def c_s_Concat_weave_Edge_weave_Edge_15_ap := block_rule (c := c_s_Concat_weave_Edge_weave_Edge_15) rfl
def o_s_Concat_weave_Edge_weave_Edge_15 : List IS := [ip 34 (pBin .add (tg 27) (cv (.int .i64 1))),
  ip 27 (pMov (tg 34))]
@[simp] def o_s_Concat_weave_Edge_weave_Edge_15_ap := ops_rule (c := o_s_Concat_weave_Edge_weave_Edge_15) rfl
def c_s_Concat_weave_Edge_weave_Edge_16 : SC := sSeq c_s_Concat_weave_Edge_weave_Edge_15 (sReg (seqI o_s_Concat_weave_Edge_weave_Edge_15))
@[simp] def c_s_Concat_weave_Edge_weave_Edge_16_ap := seq_rule (c := c_s_Concat_weave_Edge_weave_Edge_16) rfl
def c_s_Concat_weave_Edge_weave_Edge_17 : SC := sSeq c_s_Concat_weave_Edge_weave_Edge_13 c_s_Concat_weave_Edge_weave_Edge_16
@[simp] def c_s_Concat_weave_Edge_weave_Edge_17_ap := seq_rule (c := c_s_Concat_weave_Edge_weave_Edge_17) rfl
def c_s_Concat_weave_Edge_weave_Edge_18 : SC := sSeq (sReg (seqI o_s_Concat_weave_Edge_weave_Edge_12)) c_s_Concat_weave_Edge_weave_Edge_17
@[simp] def c_s_Concat_weave_Edge_weave_Edge_18_ap := seq_rule (c := c_s_Concat_weave_Edge_weave_Edge_18) rfl
def c_s_Concat_weave_Edge_weave_Edge_19 : SC := sLoop c_s_Concat_weave_Edge_weave_Edge_18
def c_s_Concat_weave_Edge_weave_Edge_20 : SC := sBlock 2 c_s_Concat_weave_Edge_weave_Edge_19
@[simp] def c_s_Concat_weave_Edge_weave_Edge_20_ap := block_rule (c := c_s_Concat_weave_Edge_weave_Edge_20) rfl
def c_s_Concat_weave_Edge_weave_Edge_21 : SC := sSeq (sReg (seqI o_s_Concat_weave_Edge_weave_Edge_11)) c_s_Concat_weave_Edge_weave_Edge_20
@[simp] def c_s_Concat_weave_Edge_weave_Edge_21_ap := seq_rule (c := c_s_Concat_weave_Edge_weave_Edge_21) rfl
def o_s_Concat_weave_Edge_weave_Edge_16 : List IS := [ip 35 (pMov (tg 6)),
  ip 2 (pMov (tg 35))]
@[simp] def o_s_Concat_weave_Edge_weave_Edge_16_ap := ops_rule (c := o_s_Concat_weave_Edge_weave_Edge_16) rfl
def c_s_Concat_weave_Edge_weave_Edge_22 : SC := sSeq (sReg (seqI o_s_Concat_weave_Edge_weave_Edge_16)) sRet
@[simp] def c_s_Concat_weave_Edge_weave_Edge_22_ap := seq_rule (c := c_s_Concat_weave_Edge_weave_Edge_22) rfl
def c_s_Concat_weave_Edge_weave_Edge_23 : SC := sSeq c_s_Concat_weave_Edge_weave_Edge_21 c_s_Concat_weave_Edge_weave_Edge_22
@[simp] def c_s_Concat_weave_Edge_weave_Edge_23_ap := seq_rule (c := c_s_Concat_weave_Edge_weave_Edge_23) rfl
def c_s_Concat_weave_Edge_weave_Edge_24 : SC := sSeq (sReg (seqI o_s_Concat_weave_Edge_weave_Edge_10)) c_s_Concat_weave_Edge_weave_Edge_23
@[simp] def c_s_Concat_weave_Edge_weave_Edge_24_ap := seq_rule (c := c_s_Concat_weave_Edge_weave_Edge_24) rfl
def c_s_Concat_weave_Edge_weave_Edge_25 : SC := sSeq c_s_Concat_weave_Edge_weave_Edge_12 c_s_Concat_weave_Edge_weave_Edge_24
@[simp] def c_s_Concat_weave_Edge_weave_Edge_25_ap := seq_rule (c := c_s_Concat_weave_Edge_weave_Edge_25) rfl
def c_s_Concat_weave_Edge_weave_Edge_26 : SC := sSeq (sReg (seqI o_s_Concat_weave_Edge_weave_Edge_2)) c_s_Concat_weave_Edge_weave_Edge_25
@[simp] def c_s_Concat_weave_Edge_weave_Edge_26_ap := seq_rule (c := c_s_Concat_weave_Edge_weave_Edge_26) rfl
def c_s_Concat_weave_Edge_weave_Edge_27 : SC := sSeq (sReg (seqI o_s_Concat_weave_Edge_weave_Edge_1)) c_s_Concat_weave_Edge_weave_Edge_26
@[simp] def c_s_Concat_weave_Edge_weave_Edge_27_ap := seq_rule (c := c_s_Concat_weave_Edge_weave_Edge_27) rfl
def d_s_Concat_weave_Edge_weave_Edge : DFn := ⟨c_s_Concat_weave_Edge_weave_Edge_27, 36, [.t 2]⟩
theorem d_s_Concat_weave_Edge_weave_Edge_ok : fnOf Try.prog 79 = some d_s_Concat_weave_Edge_weave_Edge := by kernel_rfl
def o_s_Concat_int_int_1 : List IS := [ip 2 (pMov (cv (.slice none 0 0)))]
@[simp] def o_s_Concat_int_int_1_ap := ops_rule (c := o_s_Concat_int_int_1) rfl
def o_s_Concat_int_int_2 : List IS := [ip 3 (pMov (cv (.int .i64 0)))]
@[simp] def o_s_Concat_int_int_2_ap := ops_rule (c := o_s_Concat_int_int_2) rfl
def o_s_Concat_int_int_3 : List IS := [ip 9 (pMov (tg 0)),
  ip 10 (pLen (tg 9)),
  ip 11 (pMov (cv (.int .i64 0)))]
@[simp] def o_s_Concat_int_int_3_ap := ops_rule (c := o_s_Concat_int_int_3) rfl
def o_s_Concat_int_int_4 : List IS := [ip 12 (pBin .lss (tg 11) (tg 10))]
@[simp] def o_s_Concat_int_int_4_ap := ops_rule (c := o_s_Concat_int_int_4) rfl
def c_s_Concat_int_int_1 : SC := sCond (tg 12) sSkip (sExit 0)
@[simp] def c_s_Concat_int_int_1_ap := cond_rule (c := c_s_Concat_int_int_1) rfl
def o_s_Concat_int_int_5 : List IS := [ip 13 (pIaddrS 1 (tg 9) (tg 11)),
  il 14 (tg 13) (mLoad1 (tg 13)),
  ip 5 (pMov (tg 14))]
@[simp] def o_s_Concat_int_int_5_ap := ops_rule (c := o_s_Concat_int_int_5) rfl
def o_s_Concat_int_int_6 : List IS := [ip 15 (pMov (tg 3)),
  ip 16 (pMov (tg 5)),
  ip 17 (pLen (tg 16)),
  ip 18 (pBin .add (tg 15) (tg 17)),
  ip 3 (pMov (tg 18))]
@[simp] def o_s_Concat_int_int_6_ap := ops_rule (c := o_s_Concat_int_int_6) rfl
def o_s_Concat_int_int_7 : List IS := [ip 19 (pMov (tg 3)),
  ip 20 (pBin .lss (tg 19) (cv (.int .i64 0)))]
@[simp] def o_s_Concat_int_int_7_ap := ops_rule (c := o_s_Concat_int_int_7) rfl
def o_s_Concat_int_int_8 : List IS := [ip 21 (pMkif 9 (cv (.string ⟨#[108, 101, 110, 32, 111, 117, 116, 32, 111, 102, 32, 114, 97, 110, 103, 101]⟩))),
  runI CI.bad none]
@[simp] def o_s_Concat_int_int_8_ap := ops_rule (c := o_s_Concat_int_int_8) rfl
def c_s_Concat_int_int_2 : SC := sCond (tg 20) (sReg (seqI o_s_Concat_int_int_8)) sSkip
@[simp] def c_s_Concat_int_int_2_ap := cond_rule (c := c_s_Concat_int_int_2) rfl
def c_s_Concat_int_int_3 : SC := sSeq (sReg (seqI o_s_Concat_int_int_7)) c_s_Concat_int_int_2
@[simp] def c_s_Concat_int_int_3_ap := seq_rule (c := c_s_Concat_int_int_3) rfl
def c_s_Concat_int_int_4 : SC := sSeq (sReg (seqI o_s_Concat_int_int_6)) c_s_Concat_int_int_3
@[simp] def c_s_Concat_int_int_4_ap := seq_rule (c := c_s_Concat_int_int_4) rfl
def c_s_Concat_int_int_5 : SC := sSeq (sReg (seqI o_s_Concat_int_int_5)) c_s_Concat_int_int_4
@[simp] def c_s_Concat_int_int_5_ap := seq_rule (c := c_s_Concat_int_int_5) rfl
def c_s_Concat_int_int_6 : SC := sBlock 1 c_s_Concat_int_int_5
@[simp] def c_s_Concat_int_int_6_ap := block_rule (c := c_s_Concat_int_int_6) rfl
def o_s_Concat_int_int_9 : List IS := [ip 22 (pBin .add (tg 11) (cv (.int .i64 1))),
  ip 11 (pMov (tg 22))]
@[simp] def o_s_Concat_int_int_9_ap := ops_rule (c := o_s_Concat_int_int_9) rfl
def c_s_Concat_int_int_7 : SC := sSeq c_s_Concat_int_int_6 (sReg (seqI o_s_Concat_int_int_9))
@[simp] def c_s_Concat_int_int_7_ap := seq_rule (c := c_s_Concat_int_int_7) rfl
def c_s_Concat_int_int_8 : SC := sSeq c_s_Concat_int_int_1 c_s_Concat_int_int_7
@[simp] def c_s_Concat_int_int_8_ap := seq_rule (c := c_s_Concat_int_int_8) rfl
def c_s_Concat_int_int_9 : SC := sSeq (sReg (seqI o_s_Concat_int_int_4)) c_s_Concat_int_int_8
@[simp] def c_s_Concat_int_int_9_ap := seq_rule (c := c_s_Concat_int_int_9) rfl
def c_s_Concat_int_int_10 : SC := sLoop c_s_Concat_int_int_9
def c_s_Concat_int_int_11 : SC := sBlock 0 c_s_Concat_int_int_10
@[simp] def c_s_Concat_int_int_11_ap := block_rule (c := c_s_Concat_int_int_11) rfl
def c_s_Concat_int_int_12 : SC := sSeq (sReg (seqI o_s_Concat_int_int_3)) c_s_Concat_int_int_11
@[simp] def c_s_Concat_int_int_12_ap := seq_rule (c := c_s_Concat_int_int_12) rfl
def o_s_Concat_int_int_10 : List IS := [ip 23 (pMov (tg 3)),
  im 3 24 (mCall 91 [(cv (.slice none 0 0)), (tg 23)]),
  ip 6 (pMov (tg 24))]
@[simp] def o_s_Concat_int_int_10_ap := ops_rule (c := o_s_Concat_int_int_10) rfl
def o_s_Concat_int_int_11 : List IS := [ip 25 (pMov (tg 0)),
  ip 26 (pLen (tg 25)),
  ip 27 (pMov (cv (.int .i64 0)))]
@[simp] def o_s_Concat_int_int_11_ap := ops_rule (c := o_s_Concat_int_int_11) rfl
def o_s_Concat_int_int_12 : List IS := [ip 28 (pBin .lss (tg 27) (tg 26))]
@[simp] def o_s_Concat_int_int_12_ap := ops_rule (c := o_s_Concat_int_int_12) rfl
def c_s_Concat_int_int_13 : SC := sCond (tg 28) sSkip (sExit 2)
@[simp] def c_s_Concat_int_int_13_ap := cond_rule (c := c_s_Concat_int_int_13) rfl
def o_s_Concat_int_int_13 : List IS := [ip 29 (pIaddrS 1 (tg 25) (tg 27)),
  il 30 (tg 29) (mLoad1 (tg 29)),
  ip 8 (pMov (tg 30))]
@[simp] def o_s_Concat_int_int_13_ap := ops_rule (c := o_s_Concat_int_int_13) rfl
def o_s_Concat_int_int_14 : List IS := [ip 31 (pMov (tg 6)),
  ip 32 (pMov (tg 8)),
  im 3 33 (mAppend 1 8 (tg 31) (tg 32)),
  ip 6 (pMov (tg 33))]
@[simp] def o_s_Concat_int_int_14_ap := ops_rule (c := o_s_Concat_int_int_14) rfl
def c_s_Concat_int_int_14 : SC := sSeq (sReg (seqI o_s_Concat_int_int_13)) (sReg (seqI o_s_Concat_int_int_14))
@[simp] def c_s_Concat_int_int_14_ap := seq_rule (c := c_s_Concat_int_int_14) rfl
def c_s_Concat_int_int_15 : SC := sBlock 3 c_s_Concat_int_int_14
@[simp] def c_s_Concat_int_int_15_ap := block_rule (c := c_s_Concat_int_int_15) rfl
def o_s_Concat_int_int_15 : List IS := [ip 34 (pBin .add (tg 27) (cv (.int .i64 1))),
  ip 27 (pMov (tg 34))]
@[simp] def o_s_Concat_int_int_15_ap := ops_rule (c := o_s_Concat_int_int_15) rfl
def c_s_Concat_int_int_16 : SC := sSeq c_s_Concat_int_int_15 (sReg (seqI o_s_Concat_int_int_15))
@[simp] def c_s_Concat_int_int_16_ap := seq_rule (c := c_s_Concat_int_int_16) rfl
def c_s_Concat_int_int_17 : SC := sSeq c_s_Concat_int_int_13 c_s_Concat_int_int_16
@[simp] def c_s_Concat_int_int_17_ap := seq_rule (c := c_s_Concat_int_int_17) rfl
def c_s_Concat_int_int_18 : SC := sSeq (sReg (seqI o_s_Concat_int_int_12)) c_s_Concat_int_int_17
@[simp] def c_s_Concat_int_int_18_ap := seq_rule (c := c_s_Concat_int_int_18) rfl
def c_s_Concat_int_int_19 : SC := sLoop c_s_Concat_int_int_18
def c_s_Concat_int_int_20 : SC := sBlock 2 c_s_Concat_int_int_19
@[simp] def c_s_Concat_int_int_20_ap := block_rule (c := c_s_Concat_int_int_20) rfl
def c_s_Concat_int_int_21 : SC := sSeq (sReg (seqI o_s_Concat_int_int_11)) c_s_Concat_int_int_20
@[simp] def c_s_Concat_int_int_21_ap := seq_rule (c := c_s_Concat_int_int_21) rfl
def o_s_Concat_int_int_16 : List IS := [ip 35 (pMov (tg 6)),
  ip 2 (pMov (tg 35))]
@[simp] def o_s_Concat_int_int_16_ap := ops_rule (c := o_s_Concat_int_int_16) rfl
def c_s_Concat_int_int_22 : SC := sSeq (sReg (seqI o_s_Concat_int_int_16)) sRet
@[simp] def c_s_Concat_int_int_22_ap := seq_rule (c := c_s_Concat_int_int_22) rfl
def c_s_Concat_int_int_23 : SC := sSeq c_s_Concat_int_int_21 c_s_Concat_int_int_22
@[simp] def c_s_Concat_int_int_23_ap := seq_rule (c := c_s_Concat_int_int_23) rfl
def c_s_Concat_int_int_24 : SC := sSeq (sReg (seqI o_s_Concat_int_int_10)) c_s_Concat_int_int_23
@[simp] def c_s_Concat_int_int_24_ap := seq_rule (c := c_s_Concat_int_int_24) rfl
def c_s_Concat_int_int_25 : SC := sSeq c_s_Concat_int_int_12 c_s_Concat_int_int_24
@[simp] def c_s_Concat_int_int_25_ap := seq_rule (c := c_s_Concat_int_int_25) rfl
def c_s_Concat_int_int_26 : SC := sSeq (sReg (seqI o_s_Concat_int_int_2)) c_s_Concat_int_int_25
@[simp] def c_s_Concat_int_int_26_ap := seq_rule (c := c_s_Concat_int_int_26) rfl
def c_s_Concat_int_int_27 : SC := sSeq (sReg (seqI o_s_Concat_int_int_1)) c_s_Concat_int_int_26
@[simp] def c_s_Concat_int_int_27_ap := seq_rule (c := c_s_Concat_int_int_27) rfl
def d_s_Concat_int_int : DFn := ⟨c_s_Concat_int_int_27, 36, [.t 2]⟩
theorem d_s_Concat_int_int_ok : fnOf Try.prog 80 = some d_s_Concat_int_int := by kernel_rfl
def o_cmp_Or_int_1 : List IS := [ip 2 (pMov (cv (.int .i64 0)))]
@[simp] def o_cmp_Or_int_1_ap := ops_rule (c := o_cmp_Or_int_1) rfl
def o_cmp_Or_int_2 : List IS := [ip 3 (pMov (cv (.int .i64 0)))]
@[simp] def o_cmp_Or_int_2_ap := ops_rule (c := o_cmp_Or_int_2) rfl
def o_cmp_Or_int_3 : List IS := [ip 6 (pMov (tg 0)),
  ip 7 (pLen (tg 6)),
  ip 8 (pMov (cv (.int .i64 0)))]
@[simp] def o_cmp_Or_int_3_ap := ops_rule (c := o_cmp_Or_int_3) rfl
def o_cmp_Or_int_4 : List IS := [ip 9 (pBin .lss (tg 8) (tg 7))]
@[simp] def o_cmp_Or_int_4_ap := ops_rule (c := o_cmp_Or_int_4) rfl
def c_cmp_Or_int_1 : SC := sCond (tg 9) sSkip (sExit 0)
@[simp] def c_cmp_Or_int_1_ap := cond_rule (c := c_cmp_Or_int_1) rfl
def o_cmp_Or_int_5 : List IS := [ip 10 (pIaddrS 1 (tg 6) (tg 8)),
  il 11 (tg 10) (mLoad1 (tg 10)),
  ip 5 (pMov (tg 11))]
@[simp] def o_cmp_Or_int_5_ap := ops_rule (c := o_cmp_Or_int_5) rfl
def o_cmp_Or_int_6 : List IS := [ip 12 (pMov (tg 5)),
  ip 13 (pMov (tg 3)),
  ip 14 (pBin .neq (tg 12) (tg 13))]
@[simp] def o_cmp_Or_int_6_ap := ops_rule (c := o_cmp_Or_int_6) rfl
def o_cmp_Or_int_7 : List IS := [ip 15 (pMov (tg 5)),
  ip 2 (pMov (tg 15))]
@[simp] def o_cmp_Or_int_7_ap := ops_rule (c := o_cmp_Or_int_7) rfl
def c_cmp_Or_int_2 : SC := sSeq (sReg (seqI o_cmp_Or_int_7)) sRet
@[simp] def c_cmp_Or_int_2_ap := seq_rule (c := c_cmp_Or_int_2) rfl
def c_cmp_Or_int_3 : SC := sCond (tg 14) c_cmp_Or_int_2 sSkip
@[simp] def c_cmp_Or_int_3_ap := cond_rule (c := c_cmp_Or_int_3) rfl
def c_cmp_Or_int_4 : SC := sSeq (sReg (seqI o_cmp_Or_int_6)) c_cmp_Or_int_3
@[simp] def c_cmp_Or_int_4_ap := seq_rule (c := c_cmp_Or_int_4) rfl
def c_cmp_Or_int_5 : SC := sSeq (sReg (seqI o_cmp_Or_int_5)) c_cmp_Or_int_4
@[simp] def c_cmp_Or_int_5_ap := seq_rule (c := c_cmp_Or_int_5) rfl
def c_cmp_Or_int_6 : SC := sBlock 1 c_cmp_Or_int_5
@[simp] def c_cmp_Or_int_6_ap := block_rule (c := c_cmp_Or_int_6) rfl
def o_cmp_Or_int_8 : List IS := [ip 16 (pBin .add (tg 8) (cv (.int .i64 1))),
  ip 8 (pMov (tg 16))]
@[simp] def o_cmp_Or_int_8_ap := ops_rule (c := o_cmp_Or_int_8) rfl
def c_cmp_Or_int_7 : SC := sSeq c_cmp_Or_int_6 (sReg (seqI o_cmp_Or_int_8))
@[simp] def c_cmp_Or_int_7_ap := seq_rule (c := c_cmp_Or_int_7) rfl
def c_cmp_Or_int_8 : SC := sSeq c_cmp_Or_int_1 c_cmp_Or_int_7
@[simp] def c_cmp_Or_int_8_ap := seq_rule (c := c_cmp_Or_int_8) rfl
def c_cmp_Or_int_9 : SC := sSeq (sReg (seqI o_cmp_Or_int_4)) c_cmp_Or_int_8
@[simp] def c_cmp_Or_int_9_ap := seq_rule (c := c_cmp_Or_int_9) rfl
def c_cmp_Or_int_10 : SC := sLoop c_cmp_Or_int_9
def c_cmp_Or_int_11 : SC := sBlock 0 c_cmp_Or_int_10
@[simp] def c_cmp_Or_int_11_ap := block_rule (c := c_cmp_Or_int_11) rfl
def c_cmp_Or_int_12 : SC := sSeq (sReg (seqI o_cmp_Or_int_3)) c_cmp_Or_int_11
@[simp] def c_cmp_Or_int_12_ap := seq_rule (c := c_cmp_Or_int_12) rfl
def o_cmp_Or_int_9 : List IS := [ip 17 (pMov (tg 3)),
  ip 2 (pMov (tg 17))]
@[simp] def o_cmp_Or_int_9_ap := ops_rule (c := o_cmp_Or_int_9) rfl
def c_cmp_Or_int_13 : SC := sSeq (sReg (seqI o_cmp_Or_int_9)) sRet
@[simp] def c_cmp_Or_int_13_ap := seq_rule (c := c_cmp_Or_int_13) rfl
def c_cmp_Or_int_14 : SC := sSeq c_cmp_Or_int_12 c_cmp_Or_int_13
@[simp] def c_cmp_Or_int_14_ap := seq_rule (c := c_cmp_Or_int_14) rfl
def c_cmp_Or_int_15 : SC := sSeq (sReg (seqI o_cmp_Or_int_2)) c_cmp_Or_int_14
@[simp] def c_cmp_Or_int_15_ap := seq_rule (c := c_cmp_Or_int_15) rfl
def c_cmp_Or_int_16 : SC := sSeq (sReg (seqI o_cmp_Or_int_1)) c_cmp_Or_int_15
@[simp] def c_cmp_Or_int_16_ap := seq_rule (c := c_cmp_Or_int_16) rfl
def d_cmp_Or_int : DFn := ⟨c_cmp_Or_int_16, 18, [.t 2]⟩
theorem d_cmp_Or_int_ok : fnOf Try.prog 81 = some d_cmp_Or_int := by kernel_rfl
def o_cmp_Compare_int_1 : List IS := [ip 4 (pMov (cv (.int .i64 0)))]
@[simp] def o_cmp_Compare_int_1_ap := ops_rule (c := o_cmp_Compare_int_1) rfl
def o_cmp_Compare_int_2 : List IS := [ip 7 (pMov (tg 0)),
  im 3 8 (mCall 92 [(tg 7)]),
  ip 5 (pMov (tg 8))]
@[simp] def o_cmp_Compare_int_2_ap := ops_rule (c := o_cmp_Compare_int_2) rfl
def o_cmp_Compare_int_3 : List IS := [ip 9 (pMov (tg 1)),
  im 3 10 (mCall 92 [(tg 9)]),
  ip 6 (pMov (tg 10))]
@[simp] def o_cmp_Compare_int_3_ap := ops_rule (c := o_cmp_Compare_int_3) rfl
def o_cmp_Compare_int_4 : List IS := [ip 11 (pMov (tg 5))]
@[simp] def o_cmp_Compare_int_4_ap := ops_rule (c := o_cmp_Compare_int_4) rfl
def o_cmp_Compare_int_5 : List IS := [ip 12 (pMov (tg 6))]
@[simp] def o_cmp_Compare_int_5_ap := ops_rule (c := o_cmp_Compare_int_5) rfl
def o_cmp_Compare_int_6 : List IS := [ip 4 (pMov (cv (.int .i64 0)))]
@[simp] def o_cmp_Compare_int_6_ap := ops_rule (c := o_cmp_Compare_int_6) rfl
def c_cmp_Compare_int_1 : SC := sSeq (sReg (seqI o_cmp_Compare_int_6)) sRet
@[simp] def c_cmp_Compare_int_1_ap := seq_rule (c := c_cmp_Compare_int_1) rfl
def c_cmp_Compare_int_2 : SC := sCond (tg 12) c_cmp_Compare_int_1 sSkip
@[simp] def c_cmp_Compare_int_2_ap := cond_rule (c := c_cmp_Compare_int_2) rfl
def c_cmp_Compare_int_3 : SC := sSeq (sReg (seqI o_cmp_Compare_int_5)) c_cmp_Compare_int_2
@[simp] def c_cmp_Compare_int_3_ap := seq_rule (c := c_cmp_Compare_int_3) rfl
def o_cmp_Compare_int_7 : List IS := [ip 4 (pMov (cv (.int .i64 (-1))))]
@[simp] def o_cmp_Compare_int_7_ap := ops_rule (c := o_cmp_Compare_int_7) rfl
def c_cmp_Compare_int_4 : SC := sSeq (sReg (seqI o_cmp_Compare_int_7)) sRet
@[simp] def c_cmp_Compare_int_4_ap := seq_rule (c := c_cmp_Compare_int_4) rfl
def c_cmp_Compare_int_5 : SC := sSeq c_cmp_Compare_int_3 c_cmp_Compare_int_4
@[simp] def c_cmp_Compare_int_5_ap := seq_rule (c := c_cmp_Compare_int_5) rfl
def c_cmp_Compare_int_6 : SC := sCond (tg 11) c_cmp_Compare_int_5 sSkip
@[simp] def c_cmp_Compare_int_6_ap := cond_rule (c := c_cmp_Compare_int_6) rfl
def c_cmp_Compare_int_7 : SC := sSeq (sReg (seqI o_cmp_Compare_int_4)) c_cmp_Compare_int_6
@[simp] def c_cmp_Compare_int_7_ap := seq_rule (c := c_cmp_Compare_int_7) rfl
def o_cmp_Compare_int_8 : List IS := [ip 13 (pMov (tg 6))]
@[simp] def o_cmp_Compare_int_8_ap := ops_rule (c := o_cmp_Compare_int_8) rfl
def o_cmp_Compare_int_9 : List IS := [ip 4 (pMov (cv (.int .i64 1)))]
@[simp] def o_cmp_Compare_int_9_ap := ops_rule (c := o_cmp_Compare_int_9) rfl
def c_cmp_Compare_int_8 : SC := sSeq (sReg (seqI o_cmp_Compare_int_9)) sRet
@[simp] def c_cmp_Compare_int_8_ap := seq_rule (c := c_cmp_Compare_int_8) rfl
def c_cmp_Compare_int_9 : SC := sCond (tg 13) c_cmp_Compare_int_8 sSkip
@[simp] def c_cmp_Compare_int_9_ap := cond_rule (c := c_cmp_Compare_int_9) rfl
def c_cmp_Compare_int_10 : SC := sSeq (sReg (seqI o_cmp_Compare_int_8)) c_cmp_Compare_int_9
@[simp] def c_cmp_Compare_int_10_ap := seq_rule (c := c_cmp_Compare_int_10) rfl
def o_cmp_Compare_int_10 : List IS := [ip 14 (pMov (tg 0)),
  ip 15 (pMov (tg 1)),
  ip 16 (pBin .lss (tg 14) (tg 15))]
@[simp] def o_cmp_Compare_int_10_ap := ops_rule (c := o_cmp_Compare_int_10) rfl
def o_cmp_Compare_int_11 : List IS := [ip 4 (pMov (cv (.int .i64 (-1))))]
@[simp] def o_cmp_Compare_int_11_ap := ops_rule (c := o_cmp_Compare_int_11) rfl
def c_cmp_Compare_int_11 : SC := sSeq (sReg (seqI o_cmp_Compare_int_11)) sRet
@[simp] def c_cmp_Compare_int_11_ap := seq_rule (c := c_cmp_Compare_int_11) rfl
def c_cmp_Compare_int_12 : SC := sCond (tg 16) c_cmp_Compare_int_11 sSkip
@[simp] def c_cmp_Compare_int_12_ap := cond_rule (c := c_cmp_Compare_int_12) rfl
def c_cmp_Compare_int_13 : SC := sSeq (sReg (seqI o_cmp_Compare_int_10)) c_cmp_Compare_int_12
@[simp] def c_cmp_Compare_int_13_ap := seq_rule (c := c_cmp_Compare_int_13) rfl
def o_cmp_Compare_int_12 : List IS := [ip 17 (pMov (tg 0)),
  ip 18 (pMov (tg 1)),
  ip 19 (pBin .gtr (tg 17) (tg 18))]
@[simp] def o_cmp_Compare_int_12_ap := ops_rule (c := o_cmp_Compare_int_12) rfl
def o_cmp_Compare_int_13 : List IS := [ip 4 (pMov (cv (.int .i64 1)))]
@[simp] def o_cmp_Compare_int_13_ap := ops_rule (c := o_cmp_Compare_int_13) rfl
def c_cmp_Compare_int_14 : SC := sSeq (sReg (seqI o_cmp_Compare_int_13)) sRet
@[simp] def c_cmp_Compare_int_14_ap := seq_rule (c := c_cmp_Compare_int_14) rfl
def c_cmp_Compare_int_15 : SC := sCond (tg 19) c_cmp_Compare_int_14 sSkip
@[simp] def c_cmp_Compare_int_15_ap := cond_rule (c := c_cmp_Compare_int_15) rfl
def c_cmp_Compare_int_16 : SC := sSeq (sReg (seqI o_cmp_Compare_int_12)) c_cmp_Compare_int_15
@[simp] def c_cmp_Compare_int_16_ap := seq_rule (c := c_cmp_Compare_int_16) rfl
def o_cmp_Compare_int_14 : List IS := [ip 4 (pMov (cv (.int .i64 0)))]
@[simp] def o_cmp_Compare_int_14_ap := ops_rule (c := o_cmp_Compare_int_14) rfl
def c_cmp_Compare_int_17 : SC := sSeq (sReg (seqI o_cmp_Compare_int_14)) sRet
@[simp] def c_cmp_Compare_int_17_ap := seq_rule (c := c_cmp_Compare_int_17) rfl
def c_cmp_Compare_int_18 : SC := sSeq c_cmp_Compare_int_16 c_cmp_Compare_int_17
@[simp] def c_cmp_Compare_int_18_ap := seq_rule (c := c_cmp_Compare_int_18) rfl
def c_cmp_Compare_int_19 : SC := sSeq c_cmp_Compare_int_13 c_cmp_Compare_int_18
@[simp] def c_cmp_Compare_int_19_ap := seq_rule (c := c_cmp_Compare_int_19) rfl
def c_cmp_Compare_int_20 : SC := sSeq c_cmp_Compare_int_10 c_cmp_Compare_int_19
@[simp] def c_cmp_Compare_int_20_ap := seq_rule (c := c_cmp_Compare_int_20) rfl
def c_cmp_Compare_int_21 : SC := sSeq c_cmp_Compare_int_7 c_cmp_Compare_int_20
@[simp] def c_cmp_Compare_int_21_ap := seq_rule (c := c_cmp_Compare_int_21) rfl
def c_cmp_Compare_int_22 : SC := sSeq (sReg (seqI o_cmp_Compare_int_3)) c_cmp_Compare_int_21
@[simp] def c_cmp_Compare_int_22_ap := seq_rule (c := c_cmp_Compare_int_22) rfl
def c_cmp_Compare_int_23 : SC := sSeq (sReg (seqI o_cmp_Compare_int_2)) c_cmp_Compare_int_22
@[simp] def c_cmp_Compare_int_23_ap := seq_rule (c := c_cmp_Compare_int_23) rfl
def c_cmp_Compare_int_24 : SC := sSeq (sReg (seqI o_cmp_Compare_int_1)) c_cmp_Compare_int_23
@[simp] def c_cmp_Compare_int_24_ap := seq_rule (c := c_cmp_Compare_int_24) rfl
def d_cmp_Compare_int : DFn := ⟨c_cmp_Compare_int_24, 20, [.t 4]⟩
theorem d_cmp_Compare_int_ok : fnOf Try.prog 82 = some d_cmp_Compare_int := by kernel_rfl
def o_b_Mul_1 : List IS := [ip 4 (pMov (cv (.int .u64 0))),
  ip 5 (pMov (cv (.int .u64 0)))]
@[simp] def o_b_Mul_1_ap := ops_rule (c := o_b_Mul_1) rfl
def o_b_Mul_2 : List IS := [ip 11 (pMov (tg 0)),
  ip 12 (pConvI .u32 (tg 11)),
  ip 13 (pMov (tg 1)),
  ip 14 (pConvI .u32 (tg 13)),
  im 3 15 (mCall 93 [(tg 12), (tg 14)]),
  ip 10 (pMov (tg 15)),
  ip 16 (pExtract (tg 10) 0),
  ip 17 (pExtract (tg 10) 1),
  ip 6 (pMov (tg 16)),
  ip 7 (pMov (tg 17))]
@[simp] def o_b_Mul_2_ap := ops_rule (c := o_b_Mul_2) rfl
def o_b_Mul_3 : List IS := [ip 18 (pMov (tg 6)),
  ip 19 (pConvI .u64 (tg 18)),
  ip 20 (pMov (tg 7)),
  ip 21 (pConvI .u64 (tg 20)),
  ip 4 (pMov (tg 19)),
  ip 5 (pMov (tg 21))]
@[simp] def o_b_Mul_3_ap := ops_rule (c := o_b_Mul_3) rfl
def c_b_Mul_1 : SC := sSeq (sReg (seqI o_b_Mul_3)) sRet
@[simp] def c_b_Mul_1_ap := seq_rule (c := c_b_Mul_1) rfl
def c_b_Mul_2 : SC := sSeq (sReg (seqI o_b_Mul_2)) c_b_Mul_1
@[simp] def c_b_Mul_2_ap := seq_rule (c := c_b_Mul_2) rfl
def c_b_Mul_3 : SC := sCond (cv (.bool false)) c_b_Mul_2 sSkip
@[simp] def c_b_Mul_3_ap := cond_rule (c := c_b_Mul_3) rfl
def o_b_Mul_4 : List IS := [ip 23 (pMov (tg 0)),
  ip 24 (pMov (tg 1)),
  im 3 25 (mCall 94 [(tg 23), (tg 24)]),
  ip 22 (pMov (tg 25)),
  ip 26 (pExtract (tg 22) 0),
  ip 27 (pExtract (tg 22) 1),
  ip 8 (pMov (tg 26)),
  ip 9 (pMov (tg 27))]
@[simp] def o_b_Mul_4_ap := ops_rule (c := o_b_Mul_4) rfl
def o_b_Mul_5 : List IS := [ip 28 (pMov (tg 8)),
  ip 29 (pMov (tg 9)),
  ip 4 (pMov (tg 28)),
  ip 5 (pMov (tg 29))]
@[simp] def o_b_Mul_5_ap := ops_rule (c := o_b_Mul_5) rfl
def c_b_Mul_4 : SC := sSeq (sReg (seqI o_b_Mul_5)) sRet
@[simp] def c_b_Mul_4_ap := seq_rule (c := c_b_Mul_4) rfl
def c_b_Mul_5 : SC := sSeq (sReg (seqI o_b_Mul_4)) c_b_Mul_4
@[simp] def c_b_Mul_5_ap := seq_rule (c := c_b_Mul_5) rfl
def c_b_Mul_6 : SC := sSeq c_b_Mul_3 c_b_Mul_5
@[simp] def c_b_Mul_6_ap := seq_rule (c := c_b_Mul_6) rfl
def c_b_Mul_7 : SC := sSeq (sReg (seqI o_b_Mul_1)) c_b_Mul_6
@[simp] def c_b_Mul_7_ap := seq_rule (c := c_b_Mul_7) rfl
def d_b_Mul : DFn := ⟨c_b_Mul_7, 30, [.t 4, .t 5]⟩
theorem d_b_Mul_ok : fnOf Try.prog 83 = some d_b_Mul := by kernel_rfl
def o_w_plain_1_1 : List IS := [im 1 1 (mBox (tg 0)),
  ip 2 (pMov (cv (.bool false)))]
@[simp] def o_w_plain_1_1_ap := ops_rule (c := o_w_plain_1_1) rfl
def o_w_plain_1_2 : List IS := [il 3 (tg 1) (mLoadN 2 (tg 1)),
  im 3 4 (mCall 86 [(tg 3)]),
  ip 5 (pUn .not (tg 4)),
  ip 2 (pMov (tg 5))]
@[simp] def o_w_plain_1_2_ap := ops_rule (c := o_w_plain_1_2) rfl
def c_w_plain_1_1 : SC := sSeq (sReg (seqI o_w_plain_1_2)) sRet
@[simp] def c_w_plain_1_1_ap := seq_rule (c := c_w_plain_1_1) rfl
def c_w_plain_1_2 : SC := sSeq (sReg (seqI o_w_plain_1_1)) c_w_plain_1_1
@[simp] def c_w_plain_1_2_ap := seq_rule (c := c_w_plain_1_2) rfl
def d_w_plain_1 : DFn := ⟨c_w_plain_1_2, 6, [.t 2]⟩
theorem d_w_plain_1_ok : fnOf Try.prog 85 = some d_w_plain_1 := by kernel_rfl
def o_w_Edge_sound_1 : List IS := [im 1 1 (mBox (tg 0)),
  ip 2 (pMov (cv (.bool false)))]
@[simp] def o_w_Edge_sound_1_ap := ops_rule (c := o_w_Edge_sound_1) rfl
def o_w_Edge_sound_2 : List IS := [ip 3 (pFaddr 0 (tg 1)),
  il 4 (tg 3) (mLoad1 (tg 3)),
  ip 5 (pBin .geq (tg 4) (cv (.int .i64 1))),
  ip 6 (pMov (tg 5)),
  gd 6 true (some 7) (ip 7 (pFaddr 0 (tg 1))),
  gd 6 true (some 8) (il 8 (tg 7) (mLoad1 (tg 7))),
  gd 6 true (some 9) (ip 9 (pBin .leq (tg 8) (cv (.int .i64 7)))),
  ip 10 (pPick (tg 6) (tg 9) (cv (.bool false))),
  ip 11 (pMov (tg 10)),
  gd 11 true (some 12) (ip 12 (pFaddr 1 (tg 1))),
  gd 11 true (some 13) (il 13 (tg 12) (mLoad1 (tg 12))),
  gd 11 true (some 14) (ip 14 (pBin .eql (tg 13) (cv (.int .i64 0)))),
  gd 11 true (some 15) (ip 15 (pMov (tg 14))),
  gd 15 false (some 16) (ip 16 (pFaddr 1 (tg 1))),
  gd 15 false (some 17) (il 17 (tg 16) (mLoad1 (tg 16))),
  gd 15 false (some 18) (ip 18 (pBin .geq (tg 17) (cv (.int .i64 2)))),
  gd 15 false (some 19) (ip 19 (pMov (tg 18))),
  gd 19 true (some 20) (ip 20 (pFaddr 1 (tg 1))),
  gd 19 true (some 21) (il 21 (tg 20) (mLoad1 (tg 20))),
  gd 19 true (some 22) (ip 22 (pBin .leq (tg 21) (cv (.int .i64 5)))),
  gd 15 false (some 23) (ip 23 (pPick (tg 19) (tg 22) (cv (.bool false)))),
  gd 15 false (some 24) (ip 24 (pMov (tg 23))),
  gd 24 true (some 25) (il 25 (tg 1) (mLoadN 2 (tg 1))),
  gd 24 true (some 26) (im 3 26 (mCall 68 [(tg 25)])),
  gd 24 true (some 27) (ip 27 (pUn .not (tg 26))),
  gd 15 false (some 28) (ip 28 (pPick (tg 24) (tg 27) (cv (.bool false)))),
  gd 11 true (some 29) (ip 29 (pPick (tg 15) (cv (.bool true)) (tg 28))),
  ip 30 (pPick (tg 11) (tg 29) (cv (.bool false))),
  ip 2 (pMov (tg 30))]
@[simp] def o_w_Edge_sound_2_ap := ops_rule (c := o_w_Edge_sound_2) rfl
def c_w_Edge_sound_1 : SC := sSeq (sReg (seqI o_w_Edge_sound_2)) sRet
@[simp] def c_w_Edge_sound_1_ap := seq_rule (c := c_w_Edge_sound_1) rfl
def c_w_Edge_sound_2 : SC := sSeq (sReg (seqI o_w_Edge_sound_1)) c_w_Edge_sound_1
@[simp] def c_w_Edge_sound_2_ap := seq_rule (c := c_w_Edge_sound_2) rfl
def d_w_Edge_sound : DFn := ⟨c_w_Edge_sound_2, 31, [.t 2]⟩
theorem d_w_Edge_sound_ok : fnOf Try.prog 86 = some d_w_Edge_sound := by kernel_rfl
def o_w_may_1 : List IS := [ip 4 (pMov (cv (.bool false)))]
@[simp] def o_w_may_1_ap := ops_rule (c := o_w_may_1) rfl
def o_w_may_2 : List IS := [ip 5 (pMov (tg 1)),
  ip 6 (pBin .eql (tg 5) (cv (.int .i64 1))),
  ip 7 (pMov (tg 6)),
  gd 7 false (some 8) (ip 8 (pMov (tg 1))),
  gd 7 false (some 9) (ip 9 (pBin .eql (tg 8) (cv (.int .i64 5)))),
  ip 10 (pPick (tg 7) (cv (.bool true)) (tg 9)),
  ip 11 (pMov (tg 10)),
  gd 11 false (some 12) (ip 12 (pMov (tg 0))),
  gd 11 false (some 13) (ip 13 (pBin .eql (tg 12) (cv (.int .i64 1)))),
  gd 11 false (some 14) (ip 14 (pMov (tg 13))),
  gd 14 true (some 15) (ip 15 (pMov (tg 1))),
  gd 14 true (some 16) (ip 16 (pBin .eql (tg 15) (cv (.int .i64 2)))),
  gd 11 false (some 17) (ip 17 (pPick (tg 14) (tg 16) (cv (.bool false)))),
  ip 18 (pPick (tg 11) (cv (.bool true)) (tg 17)),
  ip 19 (pMov (tg 18)),
  gd 19 false (some 20) (ip 20 (pMov (tg 0))),
  gd 19 false (some 21) (ip 21 (pBin .eql (tg 20) (cv (.int .i64 2)))),
  gd 19 false (some 22) (ip 22 (pMov (tg 21))),
  gd 22 true (some 23) (ip 23 (pMov (tg 1))),
  gd 22 true (some 24) (ip 24 (pBin .eql (tg 23) (cv (.int .i64 3)))),
  gd 19 false (some 25) (ip 25 (pPick (tg 22) (tg 24) (cv (.bool false)))),
  ip 26 (pPick (tg 19) (cv (.bool true)) (tg 25)),
  ip 4 (pMov (tg 26))]
@[simp] def o_w_may_2_ap := ops_rule (c := o_w_may_2) rfl
def c_w_may_1 : SC := sSeq (sReg (seqI o_w_may_2)) sRet
@[simp] def c_w_may_1_ap := seq_rule (c := c_w_may_1) rfl
def c_w_may_2 : SC := sSeq (sReg (seqI o_w_may_1)) c_w_may_1
@[simp] def c_w_may_2_ap := seq_rule (c := c_w_may_2) rfl
def d_w_may : DFn := ⟨c_w_may_2, 27, [.t 4]⟩
theorem d_w_may_ok : fnOf Try.prog 87 = some d_w_may := by kernel_rfl
def o_w_plan_chain_1 : List IS := [im 1 2 (mBox (tg 0)),
  im 1 3 (mBox (tg 1)),
  ip 4 (pMov (cv .nilFunc))]
@[simp] def o_w_plan_chain_1_ap := ops_rule (c := o_w_plan_chain_1) rfl
def o_w_plan_chain_2 : List IS := [ip 5 (pMkfn 101 [] [(tg 2), (tg 3)]),
  ip 4 (pMov (tg 5))]
@[simp] def o_w_plan_chain_2_ap := ops_rule (c := o_w_plan_chain_2) rfl
def c_w_plan_chain_1 : SC := sSeq (sReg (seqI o_w_plan_chain_2)) sRet
@[simp] def c_w_plan_chain_1_ap := seq_rule (c := c_w_plan_chain_1) rfl
def c_w_plan_chain_2 : SC := sSeq (sReg (seqI o_w_plan_chain_1)) c_w_plan_chain_1
@[simp] def c_w_plan_chain_2_ap := seq_rule (c := c_w_plan_chain_2) rfl
def d_w_plan_chain : DFn := ⟨c_w_plan_chain_2, 6, [.t 4]⟩
theorem d_w_plan_chain_ok : fnOf Try.prog 88 = some d_w_plan_chain := by kernel_rfl
def o_r_has_1 : List IS := [ip 4 (pMov (cv (.bool false)))]
@[simp] def o_r_has_1_ap := ops_rule (c := o_r_has_1) rfl
def o_r_has_2 : List IS := [ip 5 (pMov (cv (.int .i64 0)))]
@[simp] def o_r_has_2_ap := ops_rule (c := o_r_has_2) rfl
def o_r_has_3 : List IS := [ip 6 (pMov (tg 5)),
  ip 7 (pMov (tg 0)),
  ip 8 (pLen (tg 7)),
  ip 9 (pBin .lss (tg 6) (tg 8))]
@[simp] def o_r_has_3_ap := ops_rule (c := o_r_has_3) rfl
def c_r_has_1 : SC := sCond (tg 9) sSkip (sExit 0)
@[simp] def c_r_has_1_ap := cond_rule (c := c_r_has_1) rfl
def c_r_has_2 : SC := sSeq (sReg (seqI o_r_has_3)) c_r_has_1
@[simp] def c_r_has_2_ap := seq_rule (c := c_r_has_2) rfl
def o_r_has_4 : List IS := [ip 12 (pMov (tg 0)),
  ip 13 (pMov (tg 5)),
  ip 14 (pIaddrS 1 (tg 12) (tg 13)),
  il 15 (tg 14) (mLoad1 (tg 14)),
  ip 16 (pMov (tg 1)),
  ip 17 (pBin .eql (tg 15) (tg 16))]
@[simp] def o_r_has_4_ap := ops_rule (c := o_r_has_4) rfl
def o_r_has_5 : List IS := [ip 4 (pMov (cv (.bool true)))]
@[simp] def o_r_has_5_ap := ops_rule (c := o_r_has_5) rfl
def c_r_has_3 : SC := sSeq (sReg (seqI o_r_has_5)) sRet
@[simp] def c_r_has_3_ap := seq_rule (c := c_r_has_3) rfl
def c_r_has_4 : SC := sCond (tg 17) c_r_has_3 sSkip
@[simp] def c_r_has_4_ap := cond_rule (c := c_r_has_4) rfl
def c_r_has_5 : SC := sSeq (sReg (seqI o_r_has_4)) c_r_has_4
@[simp] def c_r_has_5_ap := seq_rule (c := c_r_has_5) rfl
def c_r_has_6 : SC := sBlock 1 c_r_has_5
@[simp] def c_r_has_6_ap := block_rule (c := c_r_has_6) rfl
def o_r_has_6 : List IS := [ip 10 (pMov (tg 5)),
  ip 11 (pBin .add (tg 10) (cv (.int .i64 1))),
  ip 5 (pMov (tg 11))]
@[simp] def o_r_has_6_ap := ops_rule (c := o_r_has_6) rfl
def c_r_has_7 : SC := sSeq c_r_has_6 (sReg (seqI o_r_has_6))
@[simp] def c_r_has_7_ap := seq_rule (c := c_r_has_7) rfl
def c_r_has_8 : SC := sSeq c_r_has_2 c_r_has_7
@[simp] def c_r_has_8_ap := seq_rule (c := c_r_has_8) rfl
def c_r_has_9 : SC := sLoop c_r_has_8
def c_r_has_10 : SC := sBlock 0 c_r_has_9
@[simp] def c_r_has_10_ap := block_rule (c := c_r_has_10) rfl
def c_r_has_11 : SC := sSeq (sReg (seqI o_r_has_2)) c_r_has_10
@[simp] def c_r_has_11_ap := seq_rule (c := c_r_has_11) rfl
def o_r_has_7 : List IS := [ip 4 (pMov (cv (.bool false)))]
@[simp] def o_r_has_7_ap := ops_rule (c := o_r_has_7) rfl
def c_r_has_12 : SC := sSeq (sReg (seqI o_r_has_7)) sRet
@[simp] def c_r_has_12_ap := seq_rule (c := c_r_has_12) rfl
def c_r_has_13 : SC := sSeq c_r_has_11 c_r_has_12
@[simp] def c_r_has_13_ap := seq_rule (c := c_r_has_13) rfl
def c_r_has_14 : SC := sSeq (sReg (seqI o_r_has_1)) c_r_has_13
@[simp] def c_r_has_14_ap := seq_rule (c := c_r_has_14) rfl
def d_r_has : DFn := ⟨c_r_has_14, 18, [.t 4]⟩
theorem d_r_has_ok : fnOf Try.prog 89 = some d_r_has := by kernel_rfl
def o_s_Grow_weave_Edge_weave_Edge_1 : List IS := [ip 4 (pMov (cv (.slice none 0 0)))]
@[simp] def o_s_Grow_weave_Edge_weave_Edge_1_ap := ops_rule (c := o_s_Grow_weave_Edge_weave_Edge_1) rfl
def o_s_Grow_weave_Edge_weave_Edge_2 : List IS := [ip 5 (pMov (tg 1)),
  ip 6 (pBin .lss (tg 5) (cv (.int .i64 0)))]
@[simp] def o_s_Grow_weave_Edge_weave_Edge_2_ap := ops_rule (c := o_s_Grow_weave_Edge_weave_Edge_2) rfl
def o_s_Grow_weave_Edge_weave_Edge_3 : List IS := [ip 7 (pMkif 9 (cv (.string ⟨#[99, 97, 110, 110, 111, 116, 32, 98, 101, 32, 110, 101, 103, 97, 116, 105, 118, 101]⟩))),
  runI CI.bad none]
@[simp] def o_s_Grow_weave_Edge_weave_Edge_3_ap := ops_rule (c := o_s_Grow_weave_Edge_weave_Edge_3) rfl
def c_s_Grow_weave_Edge_weave_Edge_1 : SC := sCond (tg 6) (sReg (seqI o_s_Grow_weave_Edge_weave_Edge_3)) sSkip
@[simp] def c_s_Grow_weave_Edge_weave_Edge_1_ap := cond_rule (c := c_s_Grow_weave_Edge_weave_Edge_1) rfl
def c_s_Grow_weave_Edge_weave_Edge_2 : SC := sSeq (sReg (seqI o_s_Grow_weave_Edge_weave_Edge_2)) c_s_Grow_weave_Edge_weave_Edge_1
@[simp] def c_s_Grow_weave_Edge_weave_Edge_2_ap := seq_rule (c := c_s_Grow_weave_Edge_weave_Edge_2) rfl
def o_s_Grow_weave_Edge_weave_Edge_4 : List IS := [ip 8 (pMov (tg 1)),
  ip 9 (pMov (tg 0)),
  ip 10 (pCap (tg 9)),
  ip 11 (pMov (tg 0)),
  ip 12 (pLen (tg 11)),
  ip 13 (pBin .sub (tg 10) (tg 12)),
  ip 14 (pBin .sub (tg 8) (tg 13)),
  ip 1 (pMov (tg 14))]
@[simp] def o_s_Grow_weave_Edge_weave_Edge_4_ap := ops_rule (c := o_s_Grow_weave_Edge_weave_Edge_4) rfl
def o_s_Grow_weave_Edge_weave_Edge_5 : List IS := [ip 15 (pMov (tg 1)),
  ip 16 (pBin .gtr (tg 15) (cv (.int .i64 0)))]
@[simp] def o_s_Grow_weave_Edge_weave_Edge_5_ap := ops_rule (c := o_s_Grow_weave_Edge_weave_Edge_5) rfl
def o_s_Grow_weave_Edge_weave_Edge_6 : List IS := [ip 17 (pMov (tg 0)),
  ip 18 (pMov (tg 0)),
  ip 19 (pCap (tg 18)),
  ip 20 (pSlice 2 (tg 17) none (some (tg 19)) none),
  ip 21 (pMov (tg 1)),
  im 3 22 (mAppendZ 2 16 [(.int .i64 0), (.int .i64 0)] (tg 20) (tg 21)),
  ip 23 (pMov (tg 0)),
  ip 24 (pLen (tg 23)),
  ip 25 (pSlice 2 (tg 22) none (some (tg 24)) none),
  ip 0 (pMov (tg 25))]
@[simp] def o_s_Grow_weave_Edge_weave_Edge_6_ap := ops_rule (c := o_s_Grow_weave_Edge_weave_Edge_6) rfl
def c_s_Grow_weave_Edge_weave_Edge_3 : SC := sCond (tg 16) (sReg (seqI o_s_Grow_weave_Edge_weave_Edge_6)) sSkip
@[simp] def c_s_Grow_weave_Edge_weave_Edge_3_ap := cond_rule (c := c_s_Grow_weave_Edge_weave_Edge_3) rfl
def c_s_Grow_weave_Edge_weave_Edge_4 : SC := sSeq (sReg (seqI o_s_Grow_weave_Edge_weave_Edge_5)) c_s_Grow_weave_Edge_weave_Edge_3
@[simp] def c_s_Grow_weave_Edge_weave_Edge_4_ap := seq_rule (c := c_s_Grow_weave_Edge_weave_Edge_4) rfl
def c_s_Grow_weave_Edge_weave_Edge_5 : SC := sSeq (sReg (seqI o_s_Grow_weave_Edge_weave_Edge_4)) c_s_Grow_weave_Edge_weave_Edge_4
@[simp] def c_s_Grow_weave_Edge_weave_Edge_5_ap := seq_rule (c := c_s_Grow_weave_Edge_weave_Edge_5) rfl
def o_s_Grow_weave_Edge_weave_Edge_7 : List IS := [ip 26 (pMov (tg 0)),
  ip 4 (pMov (tg 26))]
@[simp] def o_s_Grow_weave_Edge_weave_Edge_7_ap := ops_rule (c := o_s_Grow_weave_Edge_weave_Edge_7) rfl
def c_s_Grow_weave_Edge_weave_Edge_6 : SC := sSeq (sReg (seqI o_s_Grow_weave_Edge_weave_Edge_7)) sRet
@[simp] def c_s_Grow_weave_Edge_weave_Edge_6_ap := seq_rule (c := c_s_Grow_weave_Edge_weave_Edge_6) rfl
def c_s_Grow_weave_Edge_weave_Edge_7 : SC := sSeq c_s_Grow_weave_Edge_weave_Edge_5 c_s_Grow_weave_Edge_weave_Edge_6
@[simp] def c_s_Grow_weave_Edge_weave_Edge_7_ap := seq_rule (c := c_s_Grow_weave_Edge_weave_Edge_7) rfl
def c_s_Grow_weave_Edge_weave_Edge_8 : SC := sSeq c_s_Grow_weave_Edge_weave_Edge_2 c_s_Grow_weave_Edge_weave_Edge_7
@[simp] def c_s_Grow_weave_Edge_weave_Edge_8_ap := seq_rule (c := c_s_Grow_weave_Edge_weave_Edge_8) rfl
def c_s_Grow_weave_Edge_weave_Edge_9 : SC := sSeq (sReg (seqI o_s_Grow_weave_Edge_weave_Edge_1)) c_s_Grow_weave_Edge_weave_Edge_8
@[simp] def c_s_Grow_weave_Edge_weave_Edge_9_ap := seq_rule (c := c_s_Grow_weave_Edge_weave_Edge_9) rfl
def d_s_Grow_weave_Edge_weave_Edge : DFn := ⟨c_s_Grow_weave_Edge_weave_Edge_9, 27, [.t 4]⟩
theorem d_s_Grow_weave_Edge_weave_Edge_ok : fnOf Try.prog 90 = some d_s_Grow_weave_Edge_weave_Edge := by kernel_rfl
def o_s_Grow_int_int_1 : List IS := [ip 4 (pMov (cv (.slice none 0 0)))]
@[simp] def o_s_Grow_int_int_1_ap := ops_rule (c := o_s_Grow_int_int_1) rfl
def o_s_Grow_int_int_2 : List IS := [ip 5 (pMov (tg 1)),
  ip 6 (pBin .lss (tg 5) (cv (.int .i64 0)))]
@[simp] def o_s_Grow_int_int_2_ap := ops_rule (c := o_s_Grow_int_int_2) rfl
def o_s_Grow_int_int_3 : List IS := [ip 7 (pMkif 9 (cv (.string ⟨#[99, 97, 110, 110, 111, 116, 32, 98, 101, 32, 110, 101, 103, 97, 116, 105, 118, 101]⟩))),
  runI CI.bad none]
@[simp] def o_s_Grow_int_int_3_ap := ops_rule (c := o_s_Grow_int_int_3) rfl
def c_s_Grow_int_int_1 : SC := sCond (tg 6) (sReg (seqI o_s_Grow_int_int_3)) sSkip
@[simp] def c_s_Grow_int_int_1_ap := cond_rule (c := c_s_Grow_int_int_1) rfl
def c_s_Grow_int_int_2 : SC := sSeq (sReg (seqI o_s_Grow_int_int_2)) c_s_Grow_int_int_1
@[simp] def c_s_Grow_int_int_2_ap := seq_rule (c := c_s_Grow_int_int_2) rfl
def o_s_Grow_int_int_4 : List IS := [ip 8 (pMov (tg 1)),
  ip 9 (pMov (tg 0)),
  ip 10 (pCap (tg 9)),
  ip 11 (pMov (tg 0)),
  ip 12 (pLen (tg 11)),
  ip 13 (pBin .sub (tg 10) (tg 12)),
  ip 14 (pBin .sub (tg 8) (tg 13)),
  ip 1 (pMov (tg 14))]
@[simp] def o_s_Grow_int_int_4_ap := ops_rule (c := o_s_Grow_int_int_4) rfl
def o_s_Grow_int_int_5 : List IS := [ip 15 (pMov (tg 1)),
  ip 16 (pBin .gtr (tg 15) (cv (.int .i64 0)))]
@[simp] def o_s_Grow_int_int_5_ap := ops_rule (c := o_s_Grow_int_int_5) rfl
def o_s_Grow_int_int_6 : List IS := [ip 17 (pMov (tg 0)),
  ip 18 (pMov (tg 0)),
  ip 19 (pCap (tg 18)),
  ip 20 (pSlice 1 (tg 17) none (some (tg 19)) none),
  ip 21 (pMov (tg 1)),
  im 3 22 (mAppendZ 1 8 [(.int .i64 0)] (tg 20) (tg 21)),
  ip 23 (pMov (tg 0)),
  ip 24 (pLen (tg 23)),
  ip 25 (pSlice 1 (tg 22) none (some (tg 24)) none),
  ip 0 (pMov (tg 25))]
@[simp] def o_s_Grow_int_int_6_ap := ops_rule (c := o_s_Grow_int_int_6) rfl
def c_s_Grow_int_int_3 : SC := sCond (tg 16) (sReg (seqI o_s_Grow_int_int_6)) sSkip
@[simp] def c_s_Grow_int_int_3_ap := cond_rule (c := c_s_Grow_int_int_3) rfl
def c_s_Grow_int_int_4 : SC := sSeq (sReg (seqI o_s_Grow_int_int_5)) c_s_Grow_int_int_3
@[simp] def c_s_Grow_int_int_4_ap := seq_rule (c := c_s_Grow_int_int_4) rfl
def c_s_Grow_int_int_5 : SC := sSeq (sReg (seqI o_s_Grow_int_int_4)) c_s_Grow_int_int_4
@[simp] def c_s_Grow_int_int_5_ap := seq_rule (c := c_s_Grow_int_int_5) rfl
def o_s_Grow_int_int_7 : List IS := [ip 26 (pMov (tg 0)),
  ip 4 (pMov (tg 26))]
@[simp] def o_s_Grow_int_int_7_ap := ops_rule (c := o_s_Grow_int_int_7) rfl
def c_s_Grow_int_int_6 : SC := sSeq (sReg (seqI o_s_Grow_int_int_7)) sRet
@[simp] def c_s_Grow_int_int_6_ap := seq_rule (c := c_s_Grow_int_int_6) rfl
def c_s_Grow_int_int_7 : SC := sSeq c_s_Grow_int_int_5 c_s_Grow_int_int_6
@[simp] def c_s_Grow_int_int_7_ap := seq_rule (c := c_s_Grow_int_int_7) rfl
def c_s_Grow_int_int_8 : SC := sSeq c_s_Grow_int_int_2 c_s_Grow_int_int_7
@[simp] def c_s_Grow_int_int_8_ap := seq_rule (c := c_s_Grow_int_int_8) rfl
def c_s_Grow_int_int_9 : SC := sSeq (sReg (seqI o_s_Grow_int_int_1)) c_s_Grow_int_int_8
@[simp] def c_s_Grow_int_int_9_ap := seq_rule (c := c_s_Grow_int_int_9) rfl
def d_s_Grow_int_int : DFn := ⟨c_s_Grow_int_int_9, 27, [.t 4]⟩
theorem d_s_Grow_int_int_ok : fnOf Try.prog 91 = some d_s_Grow_int_int := by kernel_rfl
def o_cmp_isNaN_int_1 : List IS := [ip 2 (pMov (cv (.bool false)))]
@[simp] def o_cmp_isNaN_int_1_ap := ops_rule (c := o_cmp_isNaN_int_1) rfl
def o_cmp_isNaN_int_2 : List IS := [ip 3 (pMov (tg 0)),
  ip 4 (pMov (tg 0)),
  ip 5 (pBin .neq (tg 3) (tg 4)),
  ip 2 (pMov (tg 5))]
@[simp] def o_cmp_isNaN_int_2_ap := ops_rule (c := o_cmp_isNaN_int_2) rfl
def c_cmp_isNaN_int_1 : SC := sSeq (sReg (seqI o_cmp_isNaN_int_2)) sRet
@[simp] def c_cmp_isNaN_int_1_ap := seq_rule (c := c_cmp_isNaN_int_1) rfl
def c_cmp_isNaN_int_2 : SC := sSeq (sReg (seqI o_cmp_isNaN_int_1)) c_cmp_isNaN_int_1
@[simp] def c_cmp_isNaN_int_2_ap := seq_rule (c := c_cmp_isNaN_int_2) rfl
def d_cmp_isNaN_int : DFn := ⟨c_cmp_isNaN_int_2, 6, [.t 2]⟩
theorem d_cmp_isNaN_int_ok : fnOf Try.prog 92 = some d_cmp_isNaN_int := by kernel_rfl
def o_b_Mul64_1 : List IS := [ip 4 (pMov (cv (.int .u64 0))),
  ip 5 (pMov (cv (.int .u64 0)))]
@[simp] def o_b_Mul64_1_ap := ops_rule (c := o_b_Mul64_1) rfl
def o_b_Mul64_2 : List IS := [ip 14 (pMov (tg 0)),
  ip 15 (pBin .and (tg 14) (cv (.int .u64 4294967295))),
  ip 6 (pMov (tg 15))]
@[simp] def o_b_Mul64_2_ap := ops_rule (c := o_b_Mul64_2) rfl
def o_b_Mul64_3 : List IS := [ip 16 (pMov (tg 0)),
  ip 17 (pShift .shr (tg 16) (cv (.int .u64 32))),
  ip 7 (pMov (tg 17))]
@[simp] def o_b_Mul64_3_ap := ops_rule (c := o_b_Mul64_3) rfl
def o_b_Mul64_4 : List IS := [ip 18 (pMov (tg 1)),
  ip 19 (pBin .and (tg 18) (cv (.int .u64 4294967295))),
  ip 8 (pMov (tg 19))]
@[simp] def o_b_Mul64_4_ap := ops_rule (c := o_b_Mul64_4) rfl
def o_b_Mul64_5 : List IS := [ip 20 (pMov (tg 1)),
  ip 21 (pShift .shr (tg 20) (cv (.int .u64 32))),
  ip 9 (pMov (tg 21))]
@[simp] def o_b_Mul64_5_ap := ops_rule (c := o_b_Mul64_5) rfl
def o_b_Mul64_6 : List IS := [ip 22 (pMov (tg 6)),
  ip 23 (pMov (tg 8)),
  ip 24 (pBin .mul (tg 22) (tg 23)),
  ip 10 (pMov (tg 24))]
@[simp] def o_b_Mul64_6_ap := ops_rule (c := o_b_Mul64_6) rfl
def o_b_Mul64_7 : List IS := [ip 25 (pMov (tg 7)),
  ip 26 (pMov (tg 8)),
  ip 27 (pBin .mul (tg 25) (tg 26)),
  ip 28 (pMov (tg 10)),
  ip 29 (pShift .shr (tg 28) (cv (.int .u64 32))),
  ip 30 (pBin .add (tg 27) (tg 29)),
  ip 11 (pMov (tg 30))]
@[simp] def o_b_Mul64_7_ap := ops_rule (c := o_b_Mul64_7) rfl
def o_b_Mul64_8 : List IS := [ip 31 (pMov (tg 11)),
  ip 32 (pBin .and (tg 31) (cv (.int .u64 4294967295))),
  ip 12 (pMov (tg 32))]
@[simp] def o_b_Mul64_8_ap := ops_rule (c := o_b_Mul64_8) rfl
def o_b_Mul64_9 : List IS := [ip 33 (pMov (tg 11)),
  ip 34 (pShift .shr (tg 33) (cv (.int .u64 32))),
  ip 13 (pMov (tg 34))]
@[simp] def o_b_Mul64_9_ap := ops_rule (c := o_b_Mul64_9) rfl
def o_b_Mul64_10 : List IS := [ip 35 (pMov (tg 12)),
  ip 36 (pMov (tg 6)),
  ip 37 (pMov (tg 9)),
  ip 38 (pBin .mul (tg 36) (tg 37)),
  ip 39 (pBin .add (tg 35) (tg 38)),
  ip 12 (pMov (tg 39))]
@[simp] def o_b_Mul64_10_ap := ops_rule (c := o_b_Mul64_10) rfl
def o_b_Mul64_11 : List IS := [ip 40 (pMov (tg 7)),
  ip 41 (pMov (tg 9)),
  ip 42 (pBin .mul (tg 40) (tg 41)),
  ip 43 (pMov (tg 13)),
  ip 44 (pBin .add (tg 42) (tg 43)),
  ip 45 (pMov (tg 12)),
  ip 46 (pShift .shr (tg 45) (cv (.int .u64 32))),
  ip 47 (pBin .add (tg 44) (tg 46)),
  ip 4 (pMov (tg 47))]
@[simp] def o_b_Mul64_11_ap := ops_rule (c := o_b_Mul64_11) rfl
def o_b_Mul64_12 : List IS := [ip 48 (pMov (tg 0)),
  ip 49 (pMov (tg 1)),
  ip 50 (pBin .mul (tg 48) (tg 49)),
  ip 5 (pMov (tg 50))]
@[simp] def o_b_Mul64_12_ap := ops_rule (c := o_b_Mul64_12) rfl
def c_b_Mul64_1 : SC := sSeq (sReg (seqI o_b_Mul64_12)) sRet
@[simp] def c_b_Mul64_1_ap := seq_rule (c := c_b_Mul64_1) rfl
def c_b_Mul64_2 : SC := sSeq (sReg (seqI o_b_Mul64_11)) c_b_Mul64_1
@[simp] def c_b_Mul64_2_ap := seq_rule (c := c_b_Mul64_2) rfl
def c_b_Mul64_3 : SC := sSeq (sReg (seqI o_b_Mul64_10)) c_b_Mul64_2
@[simp] def c_b_Mul64_3_ap := seq_rule (c := c_b_Mul64_3) rfl
def c_b_Mul64_4 : SC := sSeq (sReg (seqI o_b_Mul64_9)) c_b_Mul64_3
@[simp] def c_b_Mul64_4_ap := seq_rule (c := c_b_Mul64_4) rfl
def c_b_Mul64_5 : SC := sSeq (sReg (seqI o_b_Mul64_8)) c_b_Mul64_4
@[simp] def c_b_Mul64_5_ap := seq_rule (c := c_b_Mul64_5) rfl
def c_b_Mul64_6 : SC := sSeq (sReg (seqI o_b_Mul64_7)) c_b_Mul64_5
@[simp] def c_b_Mul64_6_ap := seq_rule (c := c_b_Mul64_6) rfl
def c_b_Mul64_7 : SC := sSeq (sReg (seqI o_b_Mul64_6)) c_b_Mul64_6
@[simp] def c_b_Mul64_7_ap := seq_rule (c := c_b_Mul64_7) rfl
def c_b_Mul64_8 : SC := sSeq (sReg (seqI o_b_Mul64_5)) c_b_Mul64_7
@[simp] def c_b_Mul64_8_ap := seq_rule (c := c_b_Mul64_8) rfl
def c_b_Mul64_9 : SC := sSeq (sReg (seqI o_b_Mul64_4)) c_b_Mul64_8
@[simp] def c_b_Mul64_9_ap := seq_rule (c := c_b_Mul64_9) rfl
def c_b_Mul64_10 : SC := sSeq (sReg (seqI o_b_Mul64_3)) c_b_Mul64_9
@[simp] def c_b_Mul64_10_ap := seq_rule (c := c_b_Mul64_10) rfl
def c_b_Mul64_11 : SC := sSeq (sReg (seqI o_b_Mul64_2)) c_b_Mul64_10
@[simp] def c_b_Mul64_11_ap := seq_rule (c := c_b_Mul64_11) rfl
def c_b_Mul64_12 : SC := sSeq (sReg (seqI o_b_Mul64_1)) c_b_Mul64_11
@[simp] def c_b_Mul64_12_ap := seq_rule (c := c_b_Mul64_12) rfl
def d_b_Mul64 : DFn := ⟨c_b_Mul64_12, 51, [.t 4, .t 5]⟩
theorem d_b_Mul64_ok : fnOf Try.prog 94 = some d_b_Mul64 := by kernel_rfl
def o_w_plan_chain_1_1 : List IS := [im 1 3 (mBox (tg 0))]
@[simp] def o_w_plan_chain_1_1_ap := ops_rule (c := o_w_plan_chain_1_1) rfl
def o_w_plan_chain_1_2 : List IS := [il 6 (tg 1) (mLoad1 (tg 1)),
  ip 7 (pNilck (tg 6)),
  ip 8 (pFaddr 0 (tg 7)),
  ip 9 (pFaddr 0 (tg 8)),
  il 10 (tg 9) (mLoad1 (tg 9)),
  ip 11 (pLen (tg 10)),
  im 1 4 (mAlloc [(.int .i64 0)]),
  im0 3 (mStore 1 (tg 4) (tg 11))]
@[simp] def o_w_plan_chain_1_2_ap := ops_rule (c := o_w_plan_chain_1_2) rfl
def o_w_plan_chain_1_3 : List IS := [il 12 (tg 1) (mLoad1 (tg 1)),
  im 3 13 (mCall 39 [(tg 12)])]
@[simp] def o_w_plan_chain_1_3_ap := ops_rule (c := o_w_plan_chain_1_3) rfl
def o_w_plan_chain_1_4 : List IS := [ip 5 (pMov (tg 14))]
@[simp] def o_w_plan_chain_1_4_ap := ops_rule (c := o_w_plan_chain_1_4) rfl
def o_w_plan_chain_1_5 : List DA := [⟨CI.load (tg 1) (mLoad1 (tg 1)), (some 15), none, 0, []⟩,
  ⟨CI.pure (pNilck (tg 15)), (some 16), none, 1, []⟩,
  ⟨CI.pure (pFaddr 6 (tg 16)), (some 17), none, 2, []⟩,
  ⟨CI.load (tg 17) (mLoad1 (tg 17)), (some 18), none, 3, []⟩,
  ⟨CI.pure (pMov (tg 5)), (some 19), none, 4, []⟩,
  ⟨CI.pure (pIaddrS 1 (tg 18) (tg 19)), (some 20), none, 5, []⟩,
  ⟨CI.load (tg 20) (mLoad1 (tg 20)), (some 21), none, 6, []⟩,
  ⟨CI.load (tg 2) (mLoad1 (tg 2)), (some 22), none, 7, []⟩,
  ⟨CI.pure (pBin .neq (tg 21) (tg 22)), (some 23), none, 8, []⟩,
  ⟨CI.pure (pMov (tg 23)), (some 24), none, 9, []⟩,
  ⟨CI.load (tg 1) (mLoad1 (tg 1)), (some 25), (some (24, false)), 10, []⟩,
  ⟨CI.pure (pNilck (tg 25)), (some 26), (some (24, false)), 11, []⟩,
  ⟨CI.pure (pFaddr 0 (tg 26)), (some 27), (some (24, false)), 12, []⟩,
  ⟨CI.pure (pFaddr 0 (tg 27)), (some 28), (some (24, false)), 13, []⟩,
  ⟨CI.load (tg 28) (mLoad1 (tg 28)), (some 29), (some (24, false)), 14, []⟩,
  ⟨CI.load (tg 1) (mLoad1 (tg 1)), (some 30), (some (24, false)), 15, []⟩,
  ⟨CI.pure (pMov (tg 5)), (some 31), (some (24, false)), 16, []⟩,
  ⟨CI.mem 3 (mCall 69 [(tg 30), (tg 31)]), (some 32), (some (24, false)), 17, [10, 14]⟩,
  ⟨CI.pure (pIaddrS 2 (tg 29) (tg 32)), (some 33), (some (24, false)), 18, []⟩,
  ⟨CI.load (tg 33) (mLoadN 2 (tg 33)), (some 34), (some (24, false)), 19, []⟩,
  ⟨CI.mem 3 (mCall 68 [(tg 34)]), (some 35), (some (24, false)), 20, []⟩,
  ⟨CI.pure (pPick (tg 24) (cv (.bool true)) (tg 35)), (some 36), none, 21, []⟩]
@[simp] def o_w_plan_chain_1_5_ap := das_rule (c := o_w_plan_chain_1_5) rfl
def c_w_plan_chain_1_1 : SC := sCond (tg 36) (sExit 1) sSkip
@[simp] def c_w_plan_chain_1_1_ap := cond_rule (c := c_w_plan_chain_1_1) rfl
def c_w_plan_chain_1_2 : SC := sSeq (sAny o_w_plan_chain_1_5) c_w_plan_chain_1_1
@[simp] def c_w_plan_chain_1_2_ap := seq_rule (c := c_w_plan_chain_1_2) rfl
def o_w_plan_chain_1_6 : List IS := [il 37 (tg 3) (mLoad1 (tg 3)),
  ip 38 (pMov (tg 5)),
  im 3 39 (mCallv (tg 37) [(tg 38)]),
  ip 40 (pMov (tg 39)),
  gd 40 true (some 41) (il 41 (tg 1) (mLoad1 (tg 1))),
  gd 40 true (some 42) (ip 42 (pNilck (tg 41))),
  gd 40 true (some 43) (ip 43 (pFaddr 0 (tg 42))),
  gd 40 true (some 44) (ip 44 (pFaddr 0 (tg 43))),
  gd 40 true (some 45) (il 45 (tg 44) (mLoad1 (tg 44))),
  gd 40 true (some 46) (ip 46 (pMov (tg 5))),
  gd 40 true (some 47) (ip 47 (pIaddrS 2 (tg 45) (tg 46))),
  gd 40 true (some 48) (il 48 (tg 47) (mLoadN 2 (tg 47))),
  gd 40 true (some 49) (im 3 49 (mCall 68 [(tg 48)])),
  ip 50 (pPick (tg 40) (tg 49) (cv (.bool false)))]
@[simp] def o_w_plan_chain_1_6_ap := ops_rule (c := o_w_plan_chain_1_6) rfl
def c_w_plan_chain_1_3 : SC := sCond (tg 50) sSkip (sExit 2)
@[simp] def c_w_plan_chain_1_3_ap := cond_rule (c := c_w_plan_chain_1_3) rfl
def c_w_plan_chain_1_4 : SC := sSeq (sReg (seqI o_w_plan_chain_1_6)) c_w_plan_chain_1_3
@[simp] def c_w_plan_chain_1_4_ap := seq_rule (c := c_w_plan_chain_1_4) rfl
def c_w_plan_chain_1_5 : SC := sBlock 3 sSkip
@[simp] def c_w_plan_chain_1_5_ap := block_rule (c := c_w_plan_chain_1_5) rfl
def o_w_plan_chain_1_7 : List IS := [ip 51 (pMov (tg 5)),
  ip 52 (pBin .add (tg 51) (cv (.int .i64 1))),
  il 53 (tg 4) (mLoad1 (tg 4)),
  ip 54 (pBin .rem (tg 52) (tg 53)),
  ip 5 (pMov (tg 54))]
@[simp] def o_w_plan_chain_1_7_ap := ops_rule (c := o_w_plan_chain_1_7) rfl
def c_w_plan_chain_1_6 : SC := sSeq c_w_plan_chain_1_5 (sReg (seqI o_w_plan_chain_1_7))
@[simp] def c_w_plan_chain_1_6_ap := seq_rule (c := c_w_plan_chain_1_6) rfl
def c_w_plan_chain_1_7 : SC := sSeq c_w_plan_chain_1_4 c_w_plan_chain_1_6
@[simp] def c_w_plan_chain_1_7_ap := seq_rule (c := c_w_plan_chain_1_7) rfl
def c_w_plan_chain_1_8 : SC := sLoop c_w_plan_chain_1_7
def c_w_plan_chain_1_9 : SC := sBlock 2 c_w_plan_chain_1_8
@[simp] def c_w_plan_chain_1_9_ap := block_rule (c := c_w_plan_chain_1_9) rfl
def c_w_plan_chain_1_10 : SC := sSeq c_w_plan_chain_1_9 sRet
@[simp] def c_w_plan_chain_1_10_ap := seq_rule (c := c_w_plan_chain_1_10) rfl
def c_w_plan_chain_1_11 : SC := sSeq c_w_plan_chain_1_2 c_w_plan_chain_1_10
@[simp] def c_w_plan_chain_1_11_ap := seq_rule (c := c_w_plan_chain_1_11) rfl
def c_w_plan_chain_1_12 : SC := sBlock 1 c_w_plan_chain_1_11
@[simp] def c_w_plan_chain_1_12_ap := block_rule (c := c_w_plan_chain_1_12) rfl
def ya_weave_plan_chain_1_1 : SC := (sReg (seqI o_w_plan_chain_1_4))
theorem ya_weave_plan_chain_1_1_ok : cCode Try.prog 55 (cL (cL (cR (cR (cR (bodyOf Try.f101)))))) = some ya_weave_plan_chain_1_1 := by kernel_rfl
def yb_weave_plan_chain_1_1 : SC := c_w_plan_chain_1_12
theorem yb_weave_plan_chain_1_1_ok : cCode Try.prog 55 (cR (cL (cR (cR (cR (bodyOf Try.f101)))))) = some yb_weave_plan_chain_1_1 := by kernel_rfl
def c_w_plan_chain_1_13 : SC := sRf (tg 13) 55 #[14] (cL (cL (cR (cR (cR (bodyOf Try.f101)))))) (cR (cL (cR (cR (cR (bodyOf Try.f101)))))) [4, 3, 2, 1]
def c_w_plan_chain_1_14 : SC := sBlock 0 c_w_plan_chain_1_13
@[simp] def c_w_plan_chain_1_14_ap := block_rule (c := c_w_plan_chain_1_14) rfl
def c_w_plan_chain_1_15 : SC := sSeq (sReg (seqI o_w_plan_chain_1_3)) c_w_plan_chain_1_14
@[simp] def c_w_plan_chain_1_15_ap := seq_rule (c := c_w_plan_chain_1_15) rfl
def c_w_plan_chain_1_16 : SC := sSeq (sReg (seqI o_w_plan_chain_1_2)) c_w_plan_chain_1_15
@[simp] def c_w_plan_chain_1_16_ap := seq_rule (c := c_w_plan_chain_1_16) rfl
def c_w_plan_chain_1_17 : SC := sSeq (sReg (seqI o_w_plan_chain_1_1)) c_w_plan_chain_1_16
@[simp] def c_w_plan_chain_1_17_ap := seq_rule (c := c_w_plan_chain_1_17) rfl
def d_w_plan_chain_1 : DFn := ⟨c_w_plan_chain_1_17, 55, []⟩
theorem d_w_plan_chain_1_ok : fnOf Try.prog 101 = some d_w_plan_chain_1 := by kernel_rfl
end
end Go.Sx
