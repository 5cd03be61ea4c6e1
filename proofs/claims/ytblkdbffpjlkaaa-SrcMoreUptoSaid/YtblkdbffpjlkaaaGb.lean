/- Compiled code. -/
import Derived.Test.YtblkdbffpjlkaaaGa
import Derived.Test.YtblkdbffpjlkaaaProg
import Derived.KernelRfl
set_option linter.unusedVariables false
set_option linter.unusedSimpArgs false
set_option linter.defProp false
/- Compiled code: printed by a program. -/
set_option linter.unusedVariables false
namespace Go.Sx
open Go.Dx Go.Proofs
noncomputable section
def o_v_SrcValues_1 : List IS := [ip 4 (pMov (cv (.bool false)))]
@[simp] def o_v_SrcValues_1_ap := ops_rule (c := o_v_SrcValues_1) rfl
def o_v_SrcValues_2 : List IS := [ip 10 (pMov (tg 0)),
  ip 11 (pMov (tg 1)),
  im 3 12 (mCall 9 [(tg 10), (tg 11)]),
  ip 9 (pMov (tg 12)),
  ip 13 (pExtract (tg 9) 0),
  ip 14 (pExtract (tg 9) 1),
  ip 5 (pMov (tg 13)),
  ip 6 (pMov (tg 14))]
@[simp] def o_v_SrcValues_2_ap := ops_rule (c := o_v_SrcValues_2) rfl
def o_v_SrcValues_3 : List IS := [ip 16 (pMov (tg 0)),
  ip 17 (pMov (tg 1)),
  im 3 18 (mCall 10 [(tg 16), (tg 17)]),
  ip 15 (pMov (tg 18)),
  ip 19 (pExtract (tg 15) 0),
  ip 20 (pExtract (tg 15) 1),
  ip 7 (pMov (tg 19)),
  ip 8 (pMov (tg 20))]
@[simp] def o_v_SrcValues_3_ap := ops_rule (c := o_v_SrcValues_3) rfl
def o_v_SrcValues_4 : List IS := [ip 21 (pMov (tg 5)),
  ip 22 (pMov (tg 7)),
  ip 23 (pBin .eql (tg 21) (tg 22)),
  ip 24 (pMov (tg 23)),
  gd 24 true (some 25) (ip 25 (pMov (tg 6))),
  gd 24 true (some 26) (ip 26 (pMov (tg 8))),
  gd 24 true (some 27) (ip 27 (pBin .eql (tg 25) (tg 26))),
  ip 28 (pPick (tg 24) (tg 27) (cv (.bool false))),
  ip 29 (pMov (tg 28)),
  gd 29 true (some 30) (im 3 30 (mCall 6 [])),
  ip 31 (pPick (tg 29) (tg 30) (cv (.bool false))),
  ip 4 (pMov (tg 31))]
@[simp] def o_v_SrcValues_4_ap := ops_rule (c := o_v_SrcValues_4) rfl
def c_v_SrcValues_1 : SC := sSeq (sReg (seqI o_v_SrcValues_4)) sRet
@[simp] def c_v_SrcValues_1_ap := seq_rule (c := c_v_SrcValues_1) rfl
def c_v_SrcValues_2 : SC := sSeq (sReg (seqI o_v_SrcValues_3)) c_v_SrcValues_1
@[simp] def c_v_SrcValues_2_ap := seq_rule (c := c_v_SrcValues_2) rfl
def c_v_SrcValues_3 : SC := sSeq (sReg (seqI o_v_SrcValues_2)) c_v_SrcValues_2
@[simp] def c_v_SrcValues_3_ap := seq_rule (c := c_v_SrcValues_3) rfl
def c_v_SrcValues_4 : SC := sSeq (sReg (seqI o_v_SrcValues_1)) c_v_SrcValues_3
@[simp] def c_v_SrcValues_4_ap := seq_rule (c := c_v_SrcValues_4) rfl
def d_v_SrcValues : DFn := ⟨c_v_SrcValues_4, 32, [.t 4]⟩
theorem d_v_SrcValues_ok : fnOf Try.prog 4 = some d_v_SrcValues := by kernel_rfl
def o_v_SrcMore_1 : List IS := [im 1 5 (mBox (tg 0)),
  ip 10 (pMov (cv (.bool false)))]
@[simp] def o_v_SrcMore_1_ap := ops_rule (c := o_v_SrcMore_1) rfl
def o_v_SrcMore_2 : List IS := [im 3 19 (mCall 6 []),
  ip 20 (pUn .not (tg 19))]
@[simp] def o_v_SrcMore_2_ap := ops_rule (c := o_v_SrcMore_2) rfl
def o_v_SrcMore_3 : List IS := [ip 10 (pMov (cv (.bool false)))]
@[simp] def o_v_SrcMore_3_ap := ops_rule (c := o_v_SrcMore_3) rfl
def c_v_SrcMore_1 : SC := sSeq (sReg (seqI o_v_SrcMore_3)) sRet
@[simp] def c_v_SrcMore_1_ap := seq_rule (c := c_v_SrcMore_1) rfl
def c_v_SrcMore_2 : SC := sCond (tg 20) c_v_SrcMore_1 sSkip
@[simp] def c_v_SrcMore_2_ap := cond_rule (c := c_v_SrcMore_2) rfl
def c_v_SrcMore_3 : SC := sSeq (sReg (seqI o_v_SrcMore_2)) c_v_SrcMore_2
@[simp] def c_v_SrcMore_3_ap := seq_rule (c := c_v_SrcMore_3) rfl
def o_v_SrcMore_4 : List IS := [il 22 (tg 5) (mLoadN 2 (tg 5)),
  ip 23 (pMov (tg 1)),
  ip 24 (pMov (tg 2)),
  ip 25 (pMov (tg 4)),
  im 3 26 (mCall 7 [(tg 22), (tg 23), (tg 24), (tg 25)]),
  ip 21 (pMov (tg 26)),
  ip 27 (pExtract (tg 21) 0),
  ip 28 (pExtract (tg 21) 1),
  im 1 11 (mAlloc [(.slice none 0 0), (.slice none 0 0), (.slice none 0 0), (.slice none 0 0), (.slice none 0 0), (.slice none 0 0), (.int .i64 0), (.int .i64 0), (.int .i64 0)]),
  im0 3 (mStore 9 (tg 11) (tg 27)),
  ip 12 (pMov (tg 28))]
@[simp] def o_v_SrcMore_4_ap := ops_rule (c := o_v_SrcMore_4) rfl
def o_v_SrcMore_5 : List IS := [ip 29 (pMov (tg 12)),
  ip 30 (pBin .neq (tg 29) (cv (.int .i64 0)))]
@[simp] def o_v_SrcMore_5_ap := ops_rule (c := o_v_SrcMore_5) rfl
def o_v_SrcMore_6 : List IS := [ip 31 (pFaddr 0 (tg 11)),
  il 32 (tg 31) (mLoad1 (tg 31)),
  ip 33 (pLen (tg 32)),
  ip 34 (pBin .eql (tg 33) (cv (.int .i64 0))),
  ip 35 (pMov (tg 34)),
  gd 35 true (some 36) (ip 36 (pFaddr 6 (tg 11))),
  gd 35 true (some 37) (il 37 (tg 36) (mLoad1 (tg 36))),
  gd 35 true (some 38) (ip 38 (pBin .eql (tg 37) (cv (.int .i64 0)))),
  ip 39 (pPick (tg 35) (tg 38) (cv (.bool false))),
  ip 10 (pMov (tg 39))]
@[simp] def o_v_SrcMore_6_ap := ops_rule (c := o_v_SrcMore_6) rfl
def c_v_SrcMore_4 : SC := sSeq (sReg (seqI o_v_SrcMore_6)) sRet
@[simp] def c_v_SrcMore_4_ap := seq_rule (c := c_v_SrcMore_4) rfl
def c_v_SrcMore_5 : SC := sCond (tg 30) c_v_SrcMore_4 sSkip
@[simp] def c_v_SrcMore_5_ap := cond_rule (c := c_v_SrcMore_5) rfl
def c_v_SrcMore_6 : SC := sSeq (sReg (seqI o_v_SrcMore_5)) c_v_SrcMore_5
@[simp] def c_v_SrcMore_6_ap := seq_rule (c := c_v_SrcMore_6) rfl
def o_v_SrcMore_7 : List IS := [im 1 40 (mBslice 1 0 (rep 0 [(.int .u64 0)]) []),
  ip 41 (pMov (tg 2)),
  im 3 42 (mAppend 1 8 (tg 40) (tg 41)),
  ip 43 (pMov (tg 3)),
  im 3 44 (mAppend 1 8 (tg 42) (tg 43)),
  ip 13 (pMov (tg 44))]
@[simp] def o_v_SrcMore_7_ap := ops_rule (c := o_v_SrcMore_7) rfl
def o_v_SrcMore_8 : List IS := [il 46 (tg 5) (mLoadN 2 (tg 5)),
  ip 47 (pMov (tg 1)),
  ip 48 (pMov (tg 13)),
  im 3 49 (mCall 7 [(tg 46), (tg 47), (tg 48), (cv (.int .i64 100000))]),
  ip 45 (pMov (tg 49)),
  ip 50 (pExtract (tg 45) 0),
  ip 51 (pExtract (tg 45) 1),
  im 1 14 (mAlloc [(.slice none 0 0), (.slice none 0 0), (.slice none 0 0), (.slice none 0 0), (.slice none 0 0), (.slice none 0 0), (.int .i64 0), (.int .i64 0), (.int .i64 0)]),
  im0 3 (mStore 9 (tg 14) (tg 50)),
  ip 12 (pMov (tg 51))]
@[simp] def o_v_SrcMore_8_ap := ops_rule (c := o_v_SrcMore_8) rfl
def o_v_SrcMore_9 : List IS := [ip 52 (pMov (tg 12)),
  ip 53 (pBin .neq (tg 52) (cv (.int .i64 0))),
  ip 54 (pMov (tg 53)),
  gd 54 false (some 55) (ip 55 (pFaddr 6 (tg 11))),
  gd 54 false (some 56) (il 56 (tg 55) (mLoad1 (tg 55))),
  gd 54 false (some 57) (ip 57 (pBin .eql (tg 56) (cv (.int .i64 1)))),
  gd 54 false (some 58) (ip 58 (pMov (tg 57))),
  gd 58 true (some 59) (il 59 (tg 11) (mLoadN 9 (tg 11))),
  gd 58 true (some 60) (il 60 (tg 14) (mLoadN 9 (tg 14))),
  gd 58 true (some 61) (im 3 61 (mCall 11 [(tg 59), (tg 60)])),
  gd 58 true (some 62) (ip 62 (pUn .not (tg 61))),
  gd 54 false (some 63) (ip 63 (pPick (tg 58) (tg 62) (cv (.bool false)))),
  ip 64 (pPick (tg 54) (cv (.bool true)) (tg 63)),
  ip 65 (pMov (tg 64)),
  gd 65 false (some 66) (ip 66 (pFaddr 0 (tg 14))),
  gd 65 false (some 67) (il 67 (tg 66) (mLoad1 (tg 66))),
  gd 65 false (some 68) (ip 68 (pLen (tg 67))),
  gd 65 false (some 69) (ip 69 (pFaddr 0 (tg 11))),
  gd 65 false (some 70) (il 70 (tg 69) (mLoad1 (tg 69))),
  gd 65 false (some 71) (ip 71 (pLen (tg 70))),
  gd 65 false (some 72) (ip 72 (pBin .lss (tg 68) (tg 71))),
  ip 73 (pPick (tg 65) (cv (.bool true)) (tg 72)),
  ip 74 (pMov (tg 73)),
  gd 74 false (some 75) (ip 75 (pFaddr 5 (tg 14))),
  gd 74 false (some 76) (il 76 (tg 75) (mLoad1 (tg 75))),
  gd 74 false (some 77) (ip 77 (pLen (tg 76))),
  gd 74 false (some 78) (ip 78 (pFaddr 5 (tg 11))),
  gd 74 false (some 79) (il 79 (tg 78) (mLoad1 (tg 78))),
  gd 74 false (some 80) (ip 80 (pLen (tg 79))),
  gd 74 false (some 81) (ip 81 (pBin .lss (tg 77) (tg 80))),
  ip 82 (pPick (tg 74) (cv (.bool true)) (tg 81)),
  ip 83 (pMov (tg 82)),
  gd 83 false (some 84) (ip 84 (pFaddr 8 (tg 14))),
  gd 83 false (some 85) (il 85 (tg 84) (mLoad1 (tg 84))),
  gd 83 false (some 86) (ip 86 (pFaddr 8 (tg 11))),
  gd 83 false (some 87) (il 87 (tg 86) (mLoad1 (tg 86))),
  gd 83 false (some 88) (ip 88 (pBin .lss (tg 85) (tg 87))),
  ip 89 (pPick (tg 83) (cv (.bool true)) (tg 88))]
@[simp] def o_v_SrcMore_9_ap := ops_rule (c := o_v_SrcMore_9) rfl
def o_v_SrcMore_10 : List IS := [ip 10 (pMov (cv (.bool false)))]
@[simp] def o_v_SrcMore_10_ap := ops_rule (c := o_v_SrcMore_10) rfl
def c_v_SrcMore_7 : SC := sSeq (sReg (seqI o_v_SrcMore_10)) sRet
@[simp] def c_v_SrcMore_7_ap := seq_rule (c := c_v_SrcMore_7) rfl
def c_v_SrcMore_8 : SC := sCond (tg 89) c_v_SrcMore_7 sSkip
@[simp] def c_v_SrcMore_8_ap := cond_rule (c := c_v_SrcMore_8) rfl
def c_v_SrcMore_9 : SC := sSeq (sReg (seqI o_v_SrcMore_9)) c_v_SrcMore_8
@[simp] def c_v_SrcMore_9_ap := seq_rule (c := c_v_SrcMore_9) rfl
def o_v_SrcMore_11 : List IS := [ip 15 (pMov (cv (.int .i64 0)))]
@[simp] def o_v_SrcMore_11_ap := ops_rule (c := o_v_SrcMore_11) rfl
def o_v_SrcMore_12 : List IS := [ip 90 (pMov (tg 15)),
  ip 91 (pFaddr 0 (tg 11)),
  il 92 (tg 91) (mLoad1 (tg 91)),
  ip 93 (pLen (tg 92)),
  ip 94 (pBin .lss (tg 90) (tg 93))]
@[simp] def o_v_SrcMore_12_ap := ops_rule (c := o_v_SrcMore_12) rfl
def c_v_SrcMore_10 : SC := sCond (tg 94) sSkip (sExit 0)
@[simp] def c_v_SrcMore_10_ap := cond_rule (c := c_v_SrcMore_10) rfl
def c_v_SrcMore_11 : SC := sSeq (sReg (seqI o_v_SrcMore_12)) c_v_SrcMore_10
@[simp] def c_v_SrcMore_11_ap := seq_rule (c := c_v_SrcMore_11) rfl
def o_v_SrcMore_13 : List DA := [⟨CI.pure (pFaddr 0 (tg 11)), (some 97), none, 0, []⟩,
  ⟨CI.load (tg 97) (mLoad1 (tg 97)), (some 98), none, 1, []⟩,
  ⟨CI.pure (pMov (tg 15)), (some 99), none, 2, []⟩,
  ⟨CI.pure (pIaddrS 5 (tg 98) (tg 99)), (some 100), none, 3, []⟩,
  ⟨CI.load (tg 100) (mLoadN 5 (tg 100)), (some 101), none, 4, []⟩,
  ⟨CI.pure (pFaddr 0 (tg 14)), (some 102), none, 5, []⟩,
  ⟨CI.load (tg 102) (mLoad1 (tg 102)), (some 103), none, 6, []⟩,
  ⟨CI.pure (pMov (tg 15)), (some 104), none, 7, []⟩,
  ⟨CI.pure (pIaddrS 5 (tg 103) (tg 104)), (some 105), none, 8, []⟩,
  ⟨CI.load (tg 105) (mLoadN 5 (tg 105)), (some 106), none, 9, []⟩,
  ⟨CI.pure (pEqF true [1, 1, 1, 1, 1] (tg 101) (tg 106)), (some 107), none, 10, []⟩]
@[simp] def o_v_SrcMore_13_ap := das_rule (c := o_v_SrcMore_13) rfl
def o_v_SrcMore_14 : List IS := [ip 10 (pMov (cv (.bool false)))]
@[simp] def o_v_SrcMore_14_ap := ops_rule (c := o_v_SrcMore_14) rfl
def c_v_SrcMore_12 : SC := sSeq (sReg (seqI o_v_SrcMore_14)) sRet
@[simp] def c_v_SrcMore_12_ap := seq_rule (c := c_v_SrcMore_12) rfl
def c_v_SrcMore_13 : SC := sCond (tg 107) c_v_SrcMore_12 sSkip
@[simp] def c_v_SrcMore_13_ap := cond_rule (c := c_v_SrcMore_13) rfl
def c_v_SrcMore_14 : SC := sSeq (sAny o_v_SrcMore_13) c_v_SrcMore_13
@[simp] def c_v_SrcMore_14_ap := seq_rule (c := c_v_SrcMore_14) rfl
def c_v_SrcMore_15 : SC := sBlock 1 c_v_SrcMore_14
@[simp] def c_v_SrcMore_15_ap := block_rule (c := c_v_SrcMore_15) rfl
def o_v_SrcMore_15 : List IS := [ip 95 (pMov (tg 15)),
  ip 96 (pBin .add (tg 95) (cv (.int .i64 1))),
  ip 15 (pMov (tg 96))]
@[simp] def o_v_SrcMore_15_ap := ops_rule (c := o_v_SrcMore_15) rfl
def c_v_SrcMore_16 : SC := sSeq c_v_SrcMore_15 (sReg (seqI o_v_SrcMore_15))
@[simp] def c_v_SrcMore_16_ap := seq_rule (c := c_v_SrcMore_16) rfl
def c_v_SrcMore_17 : SC := sSeq c_v_SrcMore_11 c_v_SrcMore_16
@[simp] def c_v_SrcMore_17_ap := seq_rule (c := c_v_SrcMore_17) rfl
def c_v_SrcMore_18 : SC := sLoop c_v_SrcMore_17
def c_v_SrcMore_19 : SC := sBlock 0 c_v_SrcMore_18
@[simp] def c_v_SrcMore_19_ap := block_rule (c := c_v_SrcMore_19) rfl
def c_v_SrcMore_20 : SC := sSeq (sReg (seqI o_v_SrcMore_11)) c_v_SrcMore_19
@[simp] def c_v_SrcMore_20_ap := seq_rule (c := c_v_SrcMore_20) rfl
def o_v_SrcMore_16 : List IS := [ip 16 (pMov (cv (.int .i64 0)))]
@[simp] def o_v_SrcMore_16_ap := ops_rule (c := o_v_SrcMore_16) rfl
def o_v_SrcMore_17 : List IS := [ip 108 (pMov (tg 16)),
  ip 109 (pFaddr 5 (tg 11)),
  il 110 (tg 109) (mLoad1 (tg 109)),
  ip 111 (pLen (tg 110)),
  ip 112 (pBin .lss (tg 108) (tg 111))]
@[simp] def o_v_SrcMore_17_ap := ops_rule (c := o_v_SrcMore_17) rfl
def c_v_SrcMore_21 : SC := sCond (tg 112) sSkip (sExit 2)
@[simp] def c_v_SrcMore_21_ap := cond_rule (c := c_v_SrcMore_21) rfl
def c_v_SrcMore_22 : SC := sSeq (sReg (seqI o_v_SrcMore_17)) c_v_SrcMore_21
@[simp] def c_v_SrcMore_22_ap := seq_rule (c := c_v_SrcMore_22) rfl
def o_v_SrcMore_18 : List DA := [⟨CI.pure (pFaddr 5 (tg 11)), (some 115), none, 0, []⟩,
  ⟨CI.load (tg 115) (mLoad1 (tg 115)), (some 116), none, 1, []⟩,
  ⟨CI.pure (pMov (tg 16)), (some 117), none, 2, []⟩,
  ⟨CI.pure (pIaddrS 1 (tg 116) (tg 117)), (some 118), none, 3, []⟩,
  ⟨CI.load (tg 118) (mLoad1 (tg 118)), (some 119), none, 4, []⟩,
  ⟨CI.pure (pFaddr 5 (tg 14)), (some 120), none, 5, []⟩,
  ⟨CI.load (tg 120) (mLoad1 (tg 120)), (some 121), none, 6, []⟩,
  ⟨CI.pure (pMov (tg 16)), (some 122), none, 7, []⟩,
  ⟨CI.pure (pIaddrS 1 (tg 121) (tg 122)), (some 123), none, 8, []⟩,
  ⟨CI.load (tg 123) (mLoad1 (tg 123)), (some 124), none, 9, []⟩,
  ⟨CI.pure (pBin .neq (tg 119) (tg 124)), (some 125), none, 10, []⟩]
@[simp] def o_v_SrcMore_18_ap := das_rule (c := o_v_SrcMore_18) rfl
def o_v_SrcMore_19 : List IS := [ip 10 (pMov (cv (.bool false)))]
@[simp] def o_v_SrcMore_19_ap := ops_rule (c := o_v_SrcMore_19) rfl
def c_v_SrcMore_23 : SC := sSeq (sReg (seqI o_v_SrcMore_19)) sRet
@[simp] def c_v_SrcMore_23_ap := seq_rule (c := c_v_SrcMore_23) rfl
def c_v_SrcMore_24 : SC := sCond (tg 125) c_v_SrcMore_23 sSkip
@[simp] def c_v_SrcMore_24_ap := cond_rule (c := c_v_SrcMore_24) rfl
def c_v_SrcMore_25 : SC := sSeq (sAny o_v_SrcMore_18) c_v_SrcMore_24
@[simp] def c_v_SrcMore_25_ap := seq_rule (c := c_v_SrcMore_25) rfl
def c_v_SrcMore_26 : SC := sBlock 3 c_v_SrcMore_25
@[simp] def c_v_SrcMore_26_ap := block_rule (c := c_v_SrcMore_26) rfl
def o_v_SrcMore_20 : List IS := [ip 113 (pMov (tg 16)),
  ip 114 (pBin .add (tg 113) (cv (.int .i64 1))),
  ip 16 (pMov (tg 114))]
@[simp] def o_v_SrcMore_20_ap := ops_rule (c := o_v_SrcMore_20) rfl
def c_v_SrcMore_27 : SC := sSeq c_v_SrcMore_26 (sReg (seqI o_v_SrcMore_20))
@[simp] def c_v_SrcMore_27_ap := seq_rule (c := c_v_SrcMore_27) rfl
def c_v_SrcMore_28 : SC := sSeq c_v_SrcMore_22 c_v_SrcMore_27
@[simp] def c_v_SrcMore_28_ap := seq_rule (c := c_v_SrcMore_28) rfl
def c_v_SrcMore_29 : SC := sLoop c_v_SrcMore_28
def c_v_SrcMore_30 : SC := sBlock 2 c_v_SrcMore_29
@[simp] def c_v_SrcMore_30_ap := block_rule (c := c_v_SrcMore_30) rfl
def c_v_SrcMore_31 : SC := sSeq (sReg (seqI o_v_SrcMore_16)) c_v_SrcMore_30
@[simp] def c_v_SrcMore_31_ap := seq_rule (c := c_v_SrcMore_31) rfl
def o_v_SrcMore_21 : List IS := [ip 17 (pMov (cv (.int .i64 0)))]
@[simp] def o_v_SrcMore_21_ap := ops_rule (c := o_v_SrcMore_21) rfl
def o_v_SrcMore_22 : List IS := [ip 18 (pMov (cv (.int .i64 0)))]
@[simp] def o_v_SrcMore_22_ap := ops_rule (c := o_v_SrcMore_22) rfl
def o_v_SrcMore_23 : List IS := [ip 126 (pMov (tg 18)),
  ip 127 (pFaddr 0 (tg 11)),
  il 128 (tg 127) (mLoad1 (tg 127)),
  ip 129 (pLen (tg 128)),
  ip 130 (pBin .lss (tg 126) (tg 129))]
@[simp] def o_v_SrcMore_23_ap := ops_rule (c := o_v_SrcMore_23) rfl
def c_v_SrcMore_32 : SC := sCond (tg 130) sSkip (sExit 4)
@[simp] def c_v_SrcMore_32_ap := cond_rule (c := c_v_SrcMore_32) rfl
def c_v_SrcMore_33 : SC := sSeq (sReg (seqI o_v_SrcMore_23)) c_v_SrcMore_32
@[simp] def c_v_SrcMore_33_ap := seq_rule (c := c_v_SrcMore_33) rfl
def o_v_SrcMore_24 : List IS := [ip 133 (pFaddr 0 (tg 11)),
  il 134 (tg 133) (mLoad1 (tg 133)),
  ip 135 (pMov (tg 18)),
  ip 136 (pIaddrS 5 (tg 134) (tg 135)),
  ip 137 (pFaddr 1 (tg 136)),
  il 138 (tg 137) (mLoad1 (tg 137)),
  ip 139 (pBin .eql (tg 138) (cv (.int .i64 1)))]
@[simp] def o_v_SrcMore_24_ap := ops_rule (c := o_v_SrcMore_24) rfl
def o_v_SrcMore_25 : List DA := [⟨CI.pure (pFaddr 0 (tg 11)), (some 140), none, 0, []⟩,
  ⟨CI.load (tg 140) (mLoad1 (tg 140)), (some 141), none, 1, []⟩,
  ⟨CI.pure (pMov (tg 18)), (some 142), none, 2, []⟩,
  ⟨CI.pure (pIaddrS 5 (tg 141) (tg 142)), (some 143), none, 3, []⟩,
  ⟨CI.pure (pFaddr 3 (tg 143)), (some 144), none, 4, []⟩,
  ⟨CI.load (tg 144) (mLoad1 (tg 144)), (some 145), none, 5, []⟩,
  ⟨CI.pure (pMov (tg 2)), (some 146), none, 6, []⟩,
  ⟨CI.pure (pMov (tg 17)), (some 147), none, 7, []⟩,
  ⟨CI.pure (pIaddrS 1 (tg 146) (tg 147)), (some 148), none, 8, []⟩,
  ⟨CI.load (tg 148) (mLoad1 (tg 148)), (some 149), none, 9, []⟩,
  ⟨CI.pure (pBin .neq (tg 145) (tg 149)), (some 150), none, 10, []⟩]
@[simp] def o_v_SrcMore_25_ap := das_rule (c := o_v_SrcMore_25) rfl
def o_v_SrcMore_26 : List IS := [ip 10 (pMov (cv (.bool false)))]
@[simp] def o_v_SrcMore_26_ap := ops_rule (c := o_v_SrcMore_26) rfl
def c_v_SrcMore_34 : SC := sSeq (sReg (seqI o_v_SrcMore_26)) sRet
@[simp] def c_v_SrcMore_34_ap := seq_rule (c := c_v_SrcMore_34) rfl
def c_v_SrcMore_35 : SC := sCond (tg 150) c_v_SrcMore_34 sSkip
@[simp] def c_v_SrcMore_35_ap := cond_rule (c := c_v_SrcMore_35) rfl
def c_v_SrcMore_36 : SC := sSeq (sAny o_v_SrcMore_25) c_v_SrcMore_35
@[simp] def c_v_SrcMore_36_ap := seq_rule (c := c_v_SrcMore_36) rfl
def o_v_SrcMore_27 : List IS := [ip 151 (pMov (tg 17)),
  ip 152 (pBin .add (tg 151) (cv (.int .i64 1))),
  ip 17 (pMov (tg 152))]
@[simp] def o_v_SrcMore_27_ap := ops_rule (c := o_v_SrcMore_27) rfl
def c_v_SrcMore_37 : SC := sSeq c_v_SrcMore_36 (sReg (seqI o_v_SrcMore_27))
@[simp] def c_v_SrcMore_37_ap := seq_rule (c := c_v_SrcMore_37) rfl
def c_v_SrcMore_38 : SC := sCond (tg 139) c_v_SrcMore_37 sSkip
@[simp] def c_v_SrcMore_38_ap := cond_rule (c := c_v_SrcMore_38) rfl
def c_v_SrcMore_39 : SC := sSeq (sReg (seqI o_v_SrcMore_24)) c_v_SrcMore_38
@[simp] def c_v_SrcMore_39_ap := seq_rule (c := c_v_SrcMore_39) rfl
def c_v_SrcMore_40 : SC := sBlock 5 c_v_SrcMore_39
@[simp] def c_v_SrcMore_40_ap := block_rule (c := c_v_SrcMore_40) rfl
def o_v_SrcMore_28 : List IS := [ip 131 (pMov (tg 18)),
  ip 132 (pBin .add (tg 131) (cv (.int .i64 1))),
  ip 18 (pMov (tg 132))]
@[simp] def o_v_SrcMore_28_ap := ops_rule (c := o_v_SrcMore_28) rfl
def c_v_SrcMore_41 : SC := sSeq c_v_SrcMore_40 (sReg (seqI o_v_SrcMore_28))
@[simp] def c_v_SrcMore_41_ap := seq_rule (c := c_v_SrcMore_41) rfl
def c_v_SrcMore_42 : SC := sSeq c_v_SrcMore_33 c_v_SrcMore_41
@[simp] def c_v_SrcMore_42_ap := seq_rule (c := c_v_SrcMore_42) rfl
def c_v_SrcMore_43 : SC := sLoop c_v_SrcMore_42
def c_v_SrcMore_44 : SC := sBlock 4 c_v_SrcMore_43
@[simp] def c_v_SrcMore_44_ap := block_rule (c := c_v_SrcMore_44) rfl
def c_v_SrcMore_45 : SC := sSeq (sReg (seqI o_v_SrcMore_22)) c_v_SrcMore_44
@[simp] def c_v_SrcMore_45_ap := seq_rule (c := c_v_SrcMore_45) rfl
def o_v_SrcMore_29 : List IS := [ip 153 (pMov (tg 17)),
  ip 154 (pFaddr 8 (tg 11)),
  il 155 (tg 154) (mLoad1 (tg 154)),
  ip 156 (pBin .eql (tg 153) (tg 155)),
  ip 157 (pMov (tg 156)),
  gd 157 true (some 158) (ip 158 (pFaddr 6 (tg 11))),
  gd 157 true (some 159) (il 159 (tg 158) (mLoad1 (tg 158))),
  gd 157 true (some 160) (ip 160 (pBin .eql (tg 159) (cv (.int .i64 2)))),
  gd 157 true (some 161) (ip 161 (pFaddr 6 (tg 11))),
  gd 157 true (some 162) (il 162 (tg 161) (mLoad1 (tg 161))),
  gd 157 true (some 163) (ip 163 (pBin .neq (tg 162) (cv (.int .i64 1)))),
  gd 157 true (some 164) (ip 164 (pMov (tg 163))),
  gd 164 true (some 165) (ip 165 (pFaddr 6 (tg 11))),
  gd 164 true (some 166) (il 166 (tg 165) (mLoad1 (tg 165))),
  gd 164 true (some 167) (ip 167 (pBin .neq (tg 166) (cv (.int .i64 4)))),
  gd 157 true (some 168) (ip 168 (pPick (tg 164) (tg 167) (cv (.bool false)))),
  gd 157 true (some 169) (ip 169 (pEqB false (tg 160) (tg 168))),
  ip 170 (pPick (tg 157) (tg 169) (cv (.bool false))),
  ip 171 (pMov (tg 170)),
  gd 171 true (some 172) (ip 172 (pFaddr 6 (tg 11))),
  gd 171 true (some 173) (il 173 (tg 172) (mLoad1 (tg 172))),
  gd 171 true (some 174) (ip 174 (pBin .neq (tg 173) (cv (.int .i64 2)))),
  gd 171 true (some 175) (ip 175 (pMov (tg 174))),
  gd 175 false (some 176) (ip 176 (pFaddr 8 (tg 11))),
  gd 175 false (some 177) (il 177 (tg 176) (mLoad1 (tg 176))),
  gd 175 false (some 178) (ip 178 (pMov (tg 2))),
  gd 175 false (some 179) (ip 179 (pLen (tg 178))),
  gd 175 false (some 180) (ip 180 (pBin .eql (tg 177) (tg 179))),
  gd 171 true (some 181) (ip 181 (pPick (tg 175) (cv (.bool true)) (tg 180))),
  ip 182 (pPick (tg 171) (tg 181) (cv (.bool false))),
  ip 10 (pMov (tg 182))]
@[simp] def o_v_SrcMore_29_ap := ops_rule (c := o_v_SrcMore_29) rfl
def c_v_SrcMore_46 : SC := sSeq (sReg (seqI o_v_SrcMore_29)) sRet
@[simp] def c_v_SrcMore_46_ap := seq_rule (c := c_v_SrcMore_46) rfl
def c_v_SrcMore_47 : SC := sSeq c_v_SrcMore_45 c_v_SrcMore_46
@[simp] def c_v_SrcMore_47_ap := seq_rule (c := c_v_SrcMore_47) rfl
def c_v_SrcMore_48 : SC := sSeq (sReg (seqI o_v_SrcMore_21)) c_v_SrcMore_47
@[simp] def c_v_SrcMore_48_ap := seq_rule (c := c_v_SrcMore_48) rfl
def c_v_SrcMore_49 : SC := sSeq c_v_SrcMore_31 c_v_SrcMore_48
@[simp] def c_v_SrcMore_49_ap := seq_rule (c := c_v_SrcMore_49) rfl
def c_v_SrcMore_50 : SC := sSeq c_v_SrcMore_20 c_v_SrcMore_49
@[simp] def c_v_SrcMore_50_ap := seq_rule (c := c_v_SrcMore_50) rfl
def c_v_SrcMore_51 : SC := sSeq c_v_SrcMore_9 c_v_SrcMore_50
@[simp] def c_v_SrcMore_51_ap := seq_rule (c := c_v_SrcMore_51) rfl
def c_v_SrcMore_52 : SC := sSeq (sReg (seqI o_v_SrcMore_8)) c_v_SrcMore_51
@[simp] def c_v_SrcMore_52_ap := seq_rule (c := c_v_SrcMore_52) rfl
def c_v_SrcMore_53 : SC := sSeq (sReg (seqI o_v_SrcMore_7)) c_v_SrcMore_52
@[simp] def c_v_SrcMore_53_ap := seq_rule (c := c_v_SrcMore_53) rfl
def c_v_SrcMore_54 : SC := sSeq c_v_SrcMore_6 c_v_SrcMore_53
@[simp] def c_v_SrcMore_54_ap := seq_rule (c := c_v_SrcMore_54) rfl
def c_v_SrcMore_55 : SC := sSeq (sReg (seqI o_v_SrcMore_4)) c_v_SrcMore_54
@[simp] def c_v_SrcMore_55_ap := seq_rule (c := c_v_SrcMore_55) rfl
def c_v_SrcMore_56 : SC := sSeq c_v_SrcMore_3 c_v_SrcMore_55
@[simp] def c_v_SrcMore_56_ap := seq_rule (c := c_v_SrcMore_56) rfl
def c_v_SrcMore_57 : SC := sSeq (sReg (seqI o_v_SrcMore_1)) c_v_SrcMore_56
@[simp] def c_v_SrcMore_57_ap := seq_rule (c := c_v_SrcMore_57) rfl
def d_v_SrcMore : DFn := ⟨c_v_SrcMore_57, 183, [.t 10]⟩
theorem d_v_SrcMore_ok : fnOf Try.prog 5 = some d_v_SrcMore := by kernel_rfl
def o_h_Replay_1 : List IS := [im 1 4 (mBox (tg 0)),
  im 1 8 (mAlloc [(.slice none 0 0), (.slice none 0 0), (.slice none 0 0), (.slice none 0 0), (.slice none 0 0), (.slice none 0 0), (.int .i64 0), (.int .i64 0), (.int .i64 0)]),
  ip 9 (pMov (cv (.int .i64 0)))]
@[simp] def o_h_Replay_1_ap := ops_rule (c := o_h_Replay_1) rfl
def o_h_Replay_2 : List IS := [il 18 (tg 4) (mLoadN 2 (tg 4)),
  ip 19 (pMov (tg 1)),
  im 3 20 (mCall 12 [(tg 18), (tg 19)]),
  ip 17 (pMov (tg 20)),
  ip 21 (pExtract (tg 17) 0),
  ip 22 (pExtract (tg 17) 1),
  ip 10 (pMov (tg 21)),
  ip 11 (pMov (tg 22))]
@[simp] def o_h_Replay_2_ap := ops_rule (c := o_h_Replay_2) rfl
def o_h_Replay_3 : List IS := [ip 23 (pMov (tg 11)),
  ip 24 (pBin .neq (tg 23) (cv (.int .i64 0))),
  ip 25 (pMov (tg 24)),
  gd 25 false (some 26) (ip 26 (pMov (tg 3))),
  gd 25 false (some 27) (ip 27 (pBin .lss (tg 26) (cv (.int .i64 0)))),
  ip 28 (pPick (tg 25) (cv (.bool true)) (tg 27)),
  ip 29 (pMov (tg 28)),
  gd 29 false (some 30) (ip 30 (pMov (tg 3))),
  gd 29 false (some 31) (ip 31 (pBin .gtr (tg 30) (cv (.int .i64 100000)))),
  ip 32 (pPick (tg 29) (cv (.bool true)) (tg 31))]
@[simp] def o_h_Replay_3_ap := ops_rule (c := o_h_Replay_3) rfl
def o_h_Replay_4 : List IS := [ip 33 (pBuild [(.slice none 0 0), (.slice none 0 0), (.slice none 0 0), (.slice none 0 0), (.slice none 0 0), (.slice none 0 0), (.int .i64 0), (.int .i64 0), (.int .i64 0)] []),
  im0 3 (mStore 9 (tg 8) (tg 33)),
  ip 9 (pMov (cv (.int .i64 1)))]
@[simp] def o_h_Replay_4_ap := ops_rule (c := o_h_Replay_4) rfl
def c_h_Replay_1 : SC := sSeq (sReg (seqI o_h_Replay_4)) sRet
@[simp] def c_h_Replay_1_ap := seq_rule (c := c_h_Replay_1) rfl
def c_h_Replay_2 : SC := sCond (tg 32) c_h_Replay_1 sSkip
@[simp] def c_h_Replay_2_ap := cond_rule (c := c_h_Replay_2) rfl
def c_h_Replay_3 : SC := sSeq (sReg (seqI o_h_Replay_3)) c_h_Replay_2
@[simp] def c_h_Replay_3_ap := seq_rule (c := c_h_Replay_3) rfl
def o_h_Replay_5 : List IS := [im 1 12 (mAlloc [(.slice none 0 0), (.slice none 0 0), (.slice none 0 0), (.slice none 0 0), (.slice none 0 0), (.slice none 0 0), (.int .i64 0), (.int .i64 0), (.int .i64 0)])]
@[simp] def o_h_Replay_5_ap := ops_rule (c := o_h_Replay_5) rfl
def o_h_Replay_6 : List DA := [⟨CI.pure (pMov (tg 10)), (some 34), none, 0, []⟩,
  ⟨CI.pure (pNilck (tg 34)), (some 35), none, 1, []⟩,
  ⟨CI.pure (pFaddr 2 (tg 35)), (some 36), none, 2, []⟩,
  ⟨CI.load (tg 36) (mLoad1 (tg 36)), (some 37), none, 3, []⟩,
  ⟨CI.pure (pMov (tg 10)), (some 38), none, 4, []⟩,
  ⟨CI.pure (pNilck (tg 38)), (some 39), none, 5, []⟩,
  ⟨CI.pure (pFaddr 0 (tg 39)), (some 40), none, 6, []⟩,
  ⟨CI.pure (pFaddr 1 (tg 40)), (some 41), none, 7, []⟩,
  ⟨CI.load (tg 41) (mLoad1 (tg 41)), (some 42), none, 8, []⟩,
  ⟨CI.pure (pLen (tg 42)), (some 43), none, 9, []⟩,
  ⟨CI.pure (pBin .lss (tg 37) (tg 43)), (some 44), none, 10, []⟩]
@[simp] def o_h_Replay_6_ap := das_rule (c := o_h_Replay_6) rfl
def c_h_Replay_4 : SC := sCond (tg 44) sSkip (sExit 0)
@[simp] def c_h_Replay_4_ap := cond_rule (c := c_h_Replay_4) rfl
def c_h_Replay_5 : SC := sSeq (sAny o_h_Replay_6) c_h_Replay_4
@[simp] def c_h_Replay_5_ap := seq_rule (c := c_h_Replay_5) rfl
def o_h_Replay_7 : List IS := [ip 47 (pMov (tg 3)),
  ip 48 (pBin .eql (tg 47) (cv (.int .i64 0)))]
@[simp] def o_h_Replay_7_ap := ops_rule (c := o_h_Replay_7) rfl
def o_h_Replay_8 : List IS := [ip 49 (pFaddr 6 (tg 12)),
  im0 3 (mStore 1 (tg 49) (cv (.int .i64 4)))]
@[simp] def o_h_Replay_8_ap := ops_rule (c := o_h_Replay_8) rfl
def o_h_Replay_9 : List IS := [il 50 (tg 12) (mLoadN 9 (tg 12)),
  im0 3 (mStore 9 (tg 8) (tg 50)),
  ip 9 (pMov (cv (.int .i64 0)))]
@[simp] def o_h_Replay_9_ap := ops_rule (c := o_h_Replay_9) rfl
def c_h_Replay_6 : SC := sSeq (sReg (seqI o_h_Replay_9)) sRet
@[simp] def c_h_Replay_6_ap := seq_rule (c := c_h_Replay_6) rfl
def c_h_Replay_7 : SC := sSeq (sReg (seqI o_h_Replay_8)) c_h_Replay_6
@[simp] def c_h_Replay_7_ap := seq_rule (c := c_h_Replay_7) rfl
def c_h_Replay_8 : SC := sCond (tg 48) c_h_Replay_7 sSkip
@[simp] def c_h_Replay_8_ap := cond_rule (c := c_h_Replay_8) rfl
def c_h_Replay_9 : SC := sSeq (sReg (seqI o_h_Replay_7)) c_h_Replay_8
@[simp] def c_h_Replay_9_ap := seq_rule (c := c_h_Replay_9) rfl
def o_h_Replay_10 : List IS := [ip 51 (pMov (tg 10)),
  im 3 52 (mCall 16 [(tg 51)]),
  im 1 13 (mAlloc [(.int .i64 0), (.int .i64 0), (.int .i64 0), (.int .i64 0), (.slice none 0 0), (.slice none 0 0), (.slice none 0 0), (.int .i64 0), (.int .i64 0), (.int .i64 0), (.int .i64 0)]),
  im0 3 (mStore 11 (tg 13) (tg 52))]
@[simp] def o_h_Replay_10_ap := ops_rule (c := o_h_Replay_10) rfl
def o_h_Replay_11 : List IS := [il 53 (tg 13) (mLoadN 11 (tg 13)),
  im 3 54 (mCall 17 [(tg 53)])]
@[simp] def o_h_Replay_11_ap := ops_rule (c := o_h_Replay_11) rfl
def o_h_Replay_12 : List DA := [⟨CI.mem 3 (mCall 18 []), (some 55), none, 0, []⟩,
  ⟨CI.pure (pFaddr 0 (tg 13)), (some 56), none, 1, []⟩,
  ⟨CI.load (tg 56) (mLoad1 (tg 56)), (some 57), none, 2, [0]⟩,
  ⟨CI.pure (pIdx 11 false 1 (tg 55) (tg 57)), (some 58), none, 3, []⟩,
  ⟨CI.pure (pMov (tg 10)), (some 59), none, 4, []⟩,
  ⟨CI.load (tg 13) (mLoadN 11 (tg 13)), (some 60), none, 5, [0]⟩,
  ⟨CI.mem 3 (mCallv (tg 58) [(tg 59), (tg 60)]), (some 61), none, 6, []⟩]
@[simp] def o_h_Replay_12_ap := das_rule (c := o_h_Replay_12) rfl
def c_h_Replay_10 : SC := sSeq (sAny o_h_Replay_12) (sExit 1)
@[simp] def c_h_Replay_10_ap := seq_rule (c := c_h_Replay_10) rfl
def c_h_Replay_11 : SC := sCond (tg 54) c_h_Replay_10 sSkip
@[simp] def c_h_Replay_11_ap := cond_rule (c := c_h_Replay_11) rfl
def c_h_Replay_12 : SC := sSeq (sReg (seqI o_h_Replay_11)) c_h_Replay_11
@[simp] def c_h_Replay_12_ap := seq_rule (c := c_h_Replay_12) rfl
def o_h_Replay_13 : List IS := [ip 14 (pMov (cv (.bool true)))]
@[simp] def o_h_Replay_13_ap := ops_rule (c := o_h_Replay_13) rfl
def o_h_Replay_14 : List IS := [ip 62 (pMov (tg 14)),
  ip 63 (pMov (tg 62)),
  gd 63 false (some 64) (ip 64 (pMov (tg 10))),
  gd 63 false (some 65) (ip 65 (pNilck (tg 64))),
  gd 63 false (some 66) (ip 66 (pFaddr 12 (tg 65))),
  gd 63 false (some 67) (il 67 (tg 66) (mLoad1 (tg 66))),
  ip 68 (pPick (tg 63) (cv (.bool true)) (tg 67))]
@[simp] def o_h_Replay_14_ap := ops_rule (c := o_h_Replay_14) rfl
def c_h_Replay_13 : SC := sCond (tg 68) sSkip (sExit 2)
@[simp] def c_h_Replay_13_ap := cond_rule (c := c_h_Replay_13) rfl
def c_h_Replay_14 : SC := sSeq (sReg (seqI o_h_Replay_14)) c_h_Replay_13
@[simp] def c_h_Replay_14_ap := seq_rule (c := c_h_Replay_14) rfl
def o_h_Replay_15 : List IS := [ip 69 (pMov (tg 10)),
  im 3 70 (mCall 13 [(tg 69)]),
  im 1 15 (mAlloc [(.int .i64 0), (.int .i64 0), (.int .i64 0), (.int .u64 0), (.bool false), (.bool false)]),
  im0 3 (mStore 6 (tg 15) (tg 70))]
@[simp] def o_h_Replay_15_ap := ops_rule (c := o_h_Replay_15) rfl
def o_h_Replay_16 : List IS := [ip 16 (pMov (cv (.int .u64 0)))]
@[simp] def o_h_Replay_16_ap := ops_rule (c := o_h_Replay_16) rfl
def o_h_Replay_17 : List IS := [ip 71 (pFaddr 0 (tg 15)),
  il 72 (tg 71) (mLoad1 (tg 71)),
  ip 73 (pBin .eql (tg 72) (cv (.int .i64 1)))]
@[simp] def o_h_Replay_17_ap := ops_rule (c := o_h_Replay_17) rfl
def o_h_Replay_18 : List IS := [ip 74 (pFaddr 8 (tg 12)),
  il 75 (tg 74) (mLoad1 (tg 74)),
  ip 76 (pMov (tg 2)),
  ip 77 (pLen (tg 76)),
  ip 78 (pBin .eql (tg 75) (tg 77))]
@[simp] def o_h_Replay_18_ap := ops_rule (c := o_h_Replay_18) rfl
def o_h_Replay_19 : List DA := [⟨CI.pure (pFaddr 1 (tg 15)), (some 79), none, 0, []⟩,
  ⟨CI.load (tg 79) (mLoad1 (tg 79)), (some 80), none, 1, []⟩,
  ⟨CI.pure (pFaddr 6 (tg 12)), (some 81), none, 2, []⟩,
  ⟨CI.mem 3 (mStore 1 (tg 81) (cv (.int .i64 2))), none, none, 3, [1]⟩,
  ⟨CI.pure (pFaddr 7 (tg 12)), (some 82), none, 4, []⟩,
  ⟨CI.mem 3 (mStore 1 (tg 82) (tg 80)), none, none, 5, []⟩]
@[simp] def o_h_Replay_19_ap := das_rule (c := o_h_Replay_19) rfl
def o_h_Replay_20 : List IS := [il 83 (tg 12) (mLoadN 9 (tg 12)),
  im0 3 (mStore 9 (tg 8) (tg 83)),
  ip 9 (pMov (cv (.int .i64 0)))]
@[simp] def o_h_Replay_20_ap := ops_rule (c := o_h_Replay_20) rfl
def c_h_Replay_15 : SC := sSeq (sReg (seqI o_h_Replay_20)) sRet
@[simp] def c_h_Replay_15_ap := seq_rule (c := c_h_Replay_15) rfl
def c_h_Replay_16 : SC := sSeq (sAny o_h_Replay_19) c_h_Replay_15
@[simp] def c_h_Replay_16_ap := seq_rule (c := c_h_Replay_16) rfl
def c_h_Replay_17 : SC := sCond (tg 78) c_h_Replay_16 sSkip
@[simp] def c_h_Replay_17_ap := cond_rule (c := c_h_Replay_17) rfl
def c_h_Replay_18 : SC := sSeq (sReg (seqI o_h_Replay_18)) c_h_Replay_17
@[simp] def c_h_Replay_18_ap := seq_rule (c := c_h_Replay_18) rfl
def o_h_Replay_21 : List IS := [ip 84 (pMov (tg 2)),
  ip 85 (pFaddr 8 (tg 12)),
  il 86 (tg 85) (mLoad1 (tg 85)),
  ip 87 (pIaddrS 1 (tg 84) (tg 86)),
  il 88 (tg 87) (mLoad1 (tg 87)),
  ip 16 (pMov (tg 88))]
@[simp] def o_h_Replay_21_ap := ops_rule (c := o_h_Replay_21) rfl
def o_h_Replay_22 : List IS := [ip 89 (pFaddr 8 (tg 12)),
  il 90 (tg 89) (mLoad1 (tg 89)),
  ip 91 (pBin .add (tg 90) (cv (.int .i64 1))),
  ip 92 (pFaddr 8 (tg 12)),
  im0 3 (mStore 1 (tg 92) (tg 91))]
@[simp] def o_h_Replay_22_ap := ops_rule (c := o_h_Replay_22) rfl
def c_h_Replay_19 : SC := sSeq (sReg (seqI o_h_Replay_21)) (sReg (seqI o_h_Replay_22))
@[simp] def c_h_Replay_19_ap := seq_rule (c := c_h_Replay_19) rfl
def c_h_Replay_20 : SC := sSeq c_h_Replay_18 c_h_Replay_19
@[simp] def c_h_Replay_20_ap := seq_rule (c := c_h_Replay_20) rfl
def c_h_Replay_21 : SC := sCond (tg 73) c_h_Replay_20 sSkip
@[simp] def c_h_Replay_21_ap := cond_rule (c := c_h_Replay_21) rfl
def c_h_Replay_22 : SC := sSeq (sReg (seqI o_h_Replay_17)) c_h_Replay_21
@[simp] def c_h_Replay_22_ap := seq_rule (c := c_h_Replay_22) rfl
def o_h_Replay_23 : List IS := [ip 93 (pFaddr 0 (tg 15)),
  il 94 (tg 93) (mLoad1 (tg 93)),
  ip 95 (pBin .eql (tg 94) (cv (.int .i64 4)))]
@[simp] def o_h_Replay_23_ap := ops_rule (c := o_h_Replay_23) rfl
def o_h_Replay_24 : List IS := [ip 96 (pFaddr 5 (tg 12)),
  il 97 (tg 96) (mLoad1 (tg 96)),
  ip 98 (pFaddr 3 (tg 15)),
  il 99 (tg 98) (mLoad1 (tg 98)),
  im 1 100 (mBslice 1 1 (rep 1 [(.int .u64 0)]) [(0, 1, (tg 99))]),
  im 3 101 (mAppend 1 8 (tg 97) (tg 100)),
  ip 102 (pFaddr 5 (tg 12)),
  im0 3 (mStore 1 (tg 102) (tg 101))]
@[simp] def o_h_Replay_24_ap := ops_rule (c := o_h_Replay_24) rfl
def o_h_Replay_25 : List DA := [⟨CI.pure (pFaddr 0 (tg 12)), (some 103), none, 0, []⟩,
  ⟨CI.load (tg 103) (mLoad1 (tg 103)), (some 104), none, 1, []⟩,
  ⟨CI.pure (pMov (tg 1)), (some 105), none, 2, []⟩,
  ⟨CI.load (tg 15) (mLoadN 6 (tg 15)), (some 106), none, 3, []⟩,
  ⟨CI.pure (pMov (tg 16)), (some 107), none, 4, []⟩,
  ⟨CI.mem 3 (mCall 19 [(tg 105), (tg 106), (tg 107)]), (some 108), none, 5, [1]⟩,
  ⟨CI.mem 1 (mBslice 5 1 (rep 1 [(.int .i64 0), (.int .i64 0), (.int .i64 0), (.int .u64 0), (.int .i64 0)]) [(0, 5, (tg 108))]), (some 109), none, 6, []⟩,
  ⟨CI.mem 3 (mAppend 5 40 (tg 104) (tg 109)), (some 110), none, 7, []⟩,
  ⟨CI.pure (pFaddr 0 (tg 12)), (some 111), none, 8, []⟩,
  ⟨CI.mem 3 (mStore 1 (tg 111) (tg 110)), none, none, 9, []⟩]
@[simp] def o_h_Replay_25_ap := das_rule (c := o_h_Replay_25) rfl
def c_h_Replay_23 : SC := sCond (tg 95) (sReg (seqI o_h_Replay_24)) (sAny o_h_Replay_25)
@[simp] def c_h_Replay_23_ap := cond_rule (c := c_h_Replay_23) rfl
def c_h_Replay_24 : SC := sSeq (sReg (seqI o_h_Replay_23)) c_h_Replay_23
@[simp] def c_h_Replay_24_ap := seq_rule (c := c_h_Replay_24) rfl
def o_h_Replay_26 : List IS := [ip 112 (pFaddr 0 (tg 15)),
  il 113 (tg 112) (mLoad1 (tg 112)),
  ip 114 (pBin .eql (tg 113) (cv (.int .i64 2))),
  ip 115 (pMov (tg 114)),
  gd 115 true (some 116) (ip 116 (pFaddr 4 (tg 15))),
  gd 115 true (some 117) (il 117 (tg 116) (mLoad1 (tg 116))),
  ip 118 (pPick (tg 115) (tg 117) (cv (.bool false)))]
@[simp] def o_h_Replay_26_ap := ops_rule (c := o_h_Replay_26) rfl
def o_h_Replay_27 : List IS := [ip 119 (pFaddr 1 (tg 12)),
  il 120 (tg 119) (mLoad1 (tg 119)),
  ip 121 (pFaddr 0 (tg 12)),
  il 122 (tg 121) (mLoad1 (tg 121)),
  ip 123 (pLen (tg 122)),
  ip 124 (pBin .sub (tg 123) (cv (.int .i64 2))),
  ip 125 (pFaddr 0 (tg 12)),
  il 126 (tg 125) (mLoad1 (tg 125)),
  ip 127 (pLen (tg 126)),
  ip 128 (pBin .sub (tg 127) (cv (.int .i64 1))),
  ip 129 (pBuild [(.int .i64 0), (.int .i64 0)] [(0, 1, (tg 124)), (1, 1, (tg 128))]),
  im 1 130 (mBslice 2 1 (rep 1 [(.int .i64 0), (.int .i64 0)]) [(0, 2, (tg 129))]),
  im 3 131 (mAppend 2 16 (tg 120) (tg 130)),
  ip 132 (pFaddr 1 (tg 12)),
  im0 3 (mStore 1 (tg 132) (tg 131))]
@[simp] def o_h_Replay_27_ap := ops_rule (c := o_h_Replay_27) rfl
def c_h_Replay_25 : SC := sCond (tg 118) (sReg (seqI o_h_Replay_27)) sSkip
@[simp] def c_h_Replay_25_ap := cond_rule (c := c_h_Replay_25) rfl
def c_h_Replay_26 : SC := sSeq (sReg (seqI o_h_Replay_26)) c_h_Replay_25
@[simp] def c_h_Replay_26_ap := seq_rule (c := c_h_Replay_26) rfl
def o_h_Replay_28 : List IS := [ip 133 (pMov (tg 10)),
  ip 134 (pMov (tg 16)),
  im 3 135 (mCall 14 [(tg 133), (tg 134)])]
@[simp] def o_h_Replay_28_ap := ops_rule (c := o_h_Replay_28) rfl
def c_h_Replay_27 : SC := sSeq c_h_Replay_26 (sReg (seqI o_h_Replay_28))
@[simp] def c_h_Replay_27_ap := seq_rule (c := c_h_Replay_27) rfl
def c_h_Replay_28 : SC := sSeq c_h_Replay_24 c_h_Replay_27
@[simp] def c_h_Replay_28_ap := seq_rule (c := c_h_Replay_28) rfl
def c_h_Replay_29 : SC := sSeq c_h_Replay_22 c_h_Replay_28
@[simp] def c_h_Replay_29_ap := seq_rule (c := c_h_Replay_29) rfl
def c_h_Replay_30 : SC := sSeq (sReg (seqI o_h_Replay_16)) c_h_Replay_29
@[simp] def c_h_Replay_30_ap := seq_rule (c := c_h_Replay_30) rfl
def c_h_Replay_31 : SC := sSeq (sReg (seqI o_h_Replay_15)) c_h_Replay_30
@[simp] def c_h_Replay_31_ap := seq_rule (c := c_h_Replay_31) rfl
def c_h_Replay_32 : SC := sBlock 3 c_h_Replay_31
@[simp] def c_h_Replay_32_ap := block_rule (c := c_h_Replay_32) rfl
def o_h_Replay_29 : List IS := [ip 14 (pMov (cv (.bool false)))]
@[simp] def o_h_Replay_29_ap := ops_rule (c := o_h_Replay_29) rfl
def c_h_Replay_33 : SC := sSeq c_h_Replay_32 (sReg (seqI o_h_Replay_29))
@[simp] def c_h_Replay_33_ap := seq_rule (c := c_h_Replay_33) rfl
def c_h_Replay_34 : SC := sSeq c_h_Replay_14 c_h_Replay_33
@[simp] def c_h_Replay_34_ap := seq_rule (c := c_h_Replay_34) rfl
def c_h_Replay_35 : SC := sLoop c_h_Replay_34
def c_h_Replay_36 : SC := sBlock 2 c_h_Replay_35
@[simp] def c_h_Replay_36_ap := block_rule (c := c_h_Replay_36) rfl
def c_h_Replay_37 : SC := sSeq (sReg (seqI o_h_Replay_13)) c_h_Replay_36
@[simp] def c_h_Replay_37_ap := seq_rule (c := c_h_Replay_37) rfl
def c_h_Replay_38 : SC := sSeq c_h_Replay_12 c_h_Replay_37
@[simp] def c_h_Replay_38_ap := seq_rule (c := c_h_Replay_38) rfl
def c_h_Replay_39 : SC := sSeq (sReg (seqI o_h_Replay_10)) c_h_Replay_38
@[simp] def c_h_Replay_39_ap := seq_rule (c := c_h_Replay_39) rfl
def c_h_Replay_40 : SC := sSeq c_h_Replay_9 c_h_Replay_39
@[simp] def c_h_Replay_40_ap := seq_rule (c := c_h_Replay_40) rfl
def c_h_Replay_41 : SC := sBlock 1 c_h_Replay_40
@[simp] def c_h_Replay_41_ap := block_rule (c := c_h_Replay_41) rfl
def o_h_Replay_30 : List IS := [ip 45 (pMov (tg 3)),
  ip 46 (pBin .sub (tg 45) (cv (.int .i64 1))),
  ip 3 (pMov (tg 46))]
@[simp] def o_h_Replay_30_ap := ops_rule (c := o_h_Replay_30) rfl
def c_h_Replay_42 : SC := sSeq c_h_Replay_41 (sReg (seqI o_h_Replay_30))
@[simp] def c_h_Replay_42_ap := seq_rule (c := c_h_Replay_42) rfl
def c_h_Replay_43 : SC := sSeq c_h_Replay_5 c_h_Replay_42
@[simp] def c_h_Replay_43_ap := seq_rule (c := c_h_Replay_43) rfl
def c_h_Replay_44 : SC := sLoop c_h_Replay_43
def c_h_Replay_45 : SC := sBlock 0 c_h_Replay_44
@[simp] def c_h_Replay_45_ap := block_rule (c := c_h_Replay_45) rfl
def o_h_Replay_31 : List IS := [ip 136 (pFaddr 6 (tg 12)),
  im0 3 (mStore 1 (tg 136) (cv (.int .i64 1)))]
@[simp] def o_h_Replay_31_ap := ops_rule (c := o_h_Replay_31) rfl
def o_h_Replay_32 : List IS := [il 137 (tg 12) (mLoadN 9 (tg 12)),
  im0 3 (mStore 9 (tg 8) (tg 137)),
  ip 9 (pMov (cv (.int .i64 0)))]
@[simp] def o_h_Replay_32_ap := ops_rule (c := o_h_Replay_32) rfl
def c_h_Replay_46 : SC := sSeq (sReg (seqI o_h_Replay_32)) sRet
@[simp] def c_h_Replay_46_ap := seq_rule (c := c_h_Replay_46) rfl
def c_h_Replay_47 : SC := sSeq (sReg (seqI o_h_Replay_31)) c_h_Replay_46
@[simp] def c_h_Replay_47_ap := seq_rule (c := c_h_Replay_47) rfl
def c_h_Replay_48 : SC := sSeq c_h_Replay_45 c_h_Replay_47
@[simp] def c_h_Replay_48_ap := seq_rule (c := c_h_Replay_48) rfl
def c_h_Replay_49 : SC := sSeq (sReg (seqI o_h_Replay_5)) c_h_Replay_48
@[simp] def c_h_Replay_49_ap := seq_rule (c := c_h_Replay_49) rfl
def c_h_Replay_50 : SC := sSeq c_h_Replay_3 c_h_Replay_49
@[simp] def c_h_Replay_50_ap := seq_rule (c := c_h_Replay_50) rfl
def c_h_Replay_51 : SC := sSeq (sReg (seqI o_h_Replay_2)) c_h_Replay_50
@[simp] def c_h_Replay_51_ap := seq_rule (c := c_h_Replay_51) rfl
def c_h_Replay_52 : SC := sSeq (sReg (seqI o_h_Replay_1)) c_h_Replay_51
@[simp] def c_h_Replay_52_ap := seq_rule (c := c_h_Replay_52) rfl
def d_h_Replay : DFn := ⟨c_h_Replay_52, 138, [.cell 8 9, .t 9]⟩
theorem d_h_Replay_ok : fnOf Try.prog 7 = some d_h_Replay := by kernel_rfl
def o_h_Value_1 : List IS := [ip 4 (pMov (cv (.int .u64 0))),
  ip 5 (pMov (cv (.int .i64 0)))]
@[simp] def o_h_Value_1_ap := ops_rule (c := o_h_Value_1) rfl
def o_h_Value_2 : List IS := [ip 6 (pMov (tg 1)),
  ip 7 (pLen (tg 6)),
  ip 8 (pBin .gtr (tg 7) (cv (.int .i64 24))),
  ip 9 (pMov (tg 8)),
  gd 9 false (some 10) (ip 10 (pMov (tg 1))),
  gd 9 false (some 11) (ip 11 (pLen (tg 10))),
  gd 9 false (some 12) (ip 12 (pMov (tg 0))),
  gd 9 false (some 13) (ip 13 (pBuild [(.int .i64 0), (.int .i64 0), (.int .i64 0), (.int .i64 0), (.slice none 0 0), (.slice none 0 0), (.slice none 0 0), (.int .i64 0), (.int .i64 0), (.int .i64 0), (.int .i64 0)] [(0, 1, (cv (.int .i64 8))), (5, 1, (tg 12))])),
  gd 9 false (some 14) (im 1 14 (mBslice 11 1 (rep 1 [(.int .i64 0), (.int .i64 0), (.int .i64 0), (.int .i64 0), (.slice none 0 0), (.slice none 0 0), (.slice none 0 0), (.int .i64 0), (.int .i64 0), (.int .i64 0), (.int .i64 0)]) [(0, 11, (tg 13))])),
  gd 9 false (some 15) (ip 15 (pBuild [(.int .i64 0), (.slice none 0 0)] [(0, 1, (tg 11)), (1, 1, (tg 14))])),
  gd 9 false (some 16) (im 1 16 (mBslice 2 1 (rep 1 [(.int .i64 0), (.slice none 0 0)]) [(0, 2, (tg 15))])),
  gd 9 false (some 17) (ip 17 (pBuild [(.int .i64 0), (.slice none 0 0)] [(1, 1, (tg 16))])),
  gd 9 false (some 18) (im 3 18 (mCall 21 [(tg 17)])),
  gd 9 false (some 19) (ip 19 (pUn .not (tg 18))),
  ip 20 (pPick (tg 9) (cv (.bool true)) (tg 19))]
@[simp] def o_h_Value_2_ap := ops_rule (c := o_h_Value_2) rfl
def o_h_Value_3 : List IS := [ip 4 (pMov (cv (.int .u64 0))),
  ip 5 (pMov (cv (.int .i64 1)))]
@[simp] def o_h_Value_3_ap := ops_rule (c := o_h_Value_3) rfl
def c_h_Value_1 : SC := sSeq (sReg (seqI o_h_Value_3)) sRet
@[simp] def c_h_Value_1_ap := seq_rule (c := c_h_Value_1) rfl
def c_h_Value_2 : SC := sCond (tg 20) c_h_Value_1 sSkip
@[simp] def c_h_Value_2_ap := cond_rule (c := c_h_Value_2) rfl
def c_h_Value_3 : SC := sSeq (sReg (seqI o_h_Value_2)) c_h_Value_2
@[simp] def c_h_Value_3_ap := seq_rule (c := c_h_Value_3) rfl
def o_h_Value_4 : List IS := [ip 21 (pMov (tg 0)),
  ip 22 (pMov (tg 1)),
  im 3 23 (mCall 22 [(tg 21), (tg 22)]),
  ip 4 (pMov (tg 23)),
  ip 5 (pMov (cv (.int .i64 0)))]
@[simp] def o_h_Value_4_ap := ops_rule (c := o_h_Value_4) rfl
def c_h_Value_4 : SC := sSeq (sReg (seqI o_h_Value_4)) sRet
@[simp] def c_h_Value_4_ap := seq_rule (c := c_h_Value_4) rfl
def c_h_Value_5 : SC := sSeq c_h_Value_3 c_h_Value_4
@[simp] def c_h_Value_5_ap := seq_rule (c := c_h_Value_5) rfl
def c_h_Value_6 : SC := sSeq (sReg (seqI o_h_Value_1)) c_h_Value_5
@[simp] def c_h_Value_6_ap := seq_rule (c := c_h_Value_6) rfl
def d_h_Value : DFn := ⟨c_h_Value_6, 24, [.t 4, .t 5]⟩
theorem d_h_Value_ok : fnOf Try.prog 9 = some d_h_Value := by kernel_rfl
def o_u_Value_1 : List IS := [ip 4 (pMov (cv (.int .u64 0))),
  ip 5 (pMov (cv (.int .i64 0)))]
@[simp] def o_u_Value_1_ap := ops_rule (c := o_u_Value_1) rfl
def o_u_Value_2 : List IS := [ip 6 (pMov (tg 1)),
  ip 7 (pLen (tg 6)),
  ip 8 (pBin .gtr (tg 7) (cv (.int .i64 24))),
  ip 9 (pMov (tg 8)),
  gd 9 false (some 10) (ip 10 (pMov (tg 0))),
  gd 9 false (some 11) (ip 11 (pMov (tg 1))),
  gd 9 false (some 12) (ip 12 (pLen (tg 11))),
  gd 9 false (some 13) (im 3 13 (mCall 23 [(tg 10), (tg 12)])),
  gd 9 false (some 14) (ip 14 (pUn .not (tg 13))),
  ip 15 (pPick (tg 9) (cv (.bool true)) (tg 14))]
@[simp] def o_u_Value_2_ap := ops_rule (c := o_u_Value_2) rfl
def o_u_Value_3 : List IS := [ip 4 (pMov (cv (.int .u64 0))),
  ip 5 (pMov (cv (.int .i64 1)))]
@[simp] def o_u_Value_3_ap := ops_rule (c := o_u_Value_3) rfl
def c_u_Value_1 : SC := sSeq (sReg (seqI o_u_Value_3)) sRet
@[simp] def c_u_Value_1_ap := seq_rule (c := c_u_Value_1) rfl
def c_u_Value_2 : SC := sCond (tg 15) c_u_Value_1 sSkip
@[simp] def c_u_Value_2_ap := cond_rule (c := c_u_Value_2) rfl
def c_u_Value_3 : SC := sSeq (sReg (seqI o_u_Value_2)) c_u_Value_2
@[simp] def c_u_Value_3_ap := seq_rule (c := c_u_Value_3) rfl
def o_u_Value_4 : List IS := [ip 16 (pMov (tg 0)),
  ip 17 (pMov (tg 1)),
  im 3 18 (mCall 24 [(tg 16), (tg 17)]),
  ip 4 (pMov (tg 18)),
  ip 5 (pMov (cv (.int .i64 0)))]
@[simp] def o_u_Value_4_ap := ops_rule (c := o_u_Value_4) rfl
def c_u_Value_4 : SC := sSeq (sReg (seqI o_u_Value_4)) sRet
@[simp] def c_u_Value_4_ap := seq_rule (c := c_u_Value_4) rfl
def c_u_Value_5 : SC := sSeq c_u_Value_3 c_u_Value_4
@[simp] def c_u_Value_5_ap := seq_rule (c := c_u_Value_5) rfl
def c_u_Value_6 : SC := sSeq (sReg (seqI o_u_Value_1)) c_u_Value_5
@[simp] def c_u_Value_6_ap := seq_rule (c := c_u_Value_6) rfl
def d_u_Value : DFn := ⟨c_u_Value_6, 19, [.t 4, .t 5]⟩
theorem d_u_Value_ok : fnOf Try.prog 10 = some d_u_Value := by kernel_rfl
def o_u_SameRun_1 : List IS := [im 1 2 (mBox (tg 0)),
  im 1 3 (mBox (tg 1)),
  ip 4 (pMov (cv (.bool false)))]
@[simp] def o_u_SameRun_1_ap := ops_rule (c := o_u_SameRun_1) rfl
def o_u_SameRun_2 : List IS := [ip 6 (pFaddr 0 (tg 2)),
  il 7 (tg 6) (mLoad1 (tg 6)),
  ip 8 (pLen (tg 7)),
  ip 9 (pFaddr 0 (tg 3)),
  il 10 (tg 9) (mLoad1 (tg 9)),
  ip 11 (pLen (tg 10)),
  ip 12 (pBin .neq (tg 8) (tg 11)),
  ip 13 (pMov (tg 12)),
  gd 13 false (some 14) (ip 14 (pFaddr 6 (tg 2))),
  gd 13 false (some 15) (il 15 (tg 14) (mLoad1 (tg 14))),
  gd 13 false (some 16) (ip 16 (pFaddr 6 (tg 3))),
  gd 13 false (some 17) (il 17 (tg 16) (mLoad1 (tg 16))),
  gd 13 false (some 18) (ip 18 (pBin .neq (tg 15) (tg 17))),
  ip 19 (pPick (tg 13) (cv (.bool true)) (tg 18)),
  ip 20 (pMov (tg 19)),
  gd 20 false (some 21) (ip 21 (pFaddr 7 (tg 2))),
  gd 20 false (some 22) (il 22 (tg 21) (mLoad1 (tg 21))),
  gd 20 false (some 23) (ip 23 (pFaddr 7 (tg 3))),
  gd 20 false (some 24) (il 24 (tg 23) (mLoad1 (tg 23))),
  gd 20 false (some 25) (ip 25 (pBin .neq (tg 22) (tg 24))),
  ip 26 (pPick (tg 20) (cv (.bool true)) (tg 25)),
  ip 27 (pMov (tg 26)),
  gd 27 false (some 28) (ip 28 (pFaddr 8 (tg 2))),
  gd 27 false (some 29) (il 29 (tg 28) (mLoad1 (tg 28))),
  gd 27 false (some 30) (ip 30 (pFaddr 8 (tg 3))),
  gd 27 false (some 31) (il 31 (tg 30) (mLoad1 (tg 30))),
  gd 27 false (some 32) (ip 32 (pBin .neq (tg 29) (tg 31))),
  ip 33 (pPick (tg 27) (cv (.bool true)) (tg 32)),
  ip 34 (pMov (tg 33)),
  gd 34 false (some 35) (ip 35 (pFaddr 5 (tg 2))),
  gd 34 false (some 36) (il 36 (tg 35) (mLoad1 (tg 35))),
  gd 34 false (some 37) (ip 37 (pFaddr 5 (tg 3))),
  gd 34 false (some 38) (il 38 (tg 37) (mLoad1 (tg 37))),
  gd 34 false (some 39) (im 3 39 (mCall 25 [(tg 36), (tg 38)])),
  gd 34 false (some 40) (ip 40 (pUn .not (tg 39))),
  ip 41 (pPick (tg 34) (cv (.bool true)) (tg 40))]
@[simp] def o_u_SameRun_2_ap := ops_rule (c := o_u_SameRun_2) rfl
def o_u_SameRun_3 : List IS := [ip 4 (pMov (cv (.bool false)))]
@[simp] def o_u_SameRun_3_ap := ops_rule (c := o_u_SameRun_3) rfl
def c_u_SameRun_1 : SC := sSeq (sReg (seqI o_u_SameRun_3)) sRet
@[simp] def c_u_SameRun_1_ap := seq_rule (c := c_u_SameRun_1) rfl
def c_u_SameRun_2 : SC := sCond (tg 41) c_u_SameRun_1 sSkip
@[simp] def c_u_SameRun_2_ap := cond_rule (c := c_u_SameRun_2) rfl
def c_u_SameRun_3 : SC := sSeq (sReg (seqI o_u_SameRun_2)) c_u_SameRun_2
@[simp] def c_u_SameRun_3_ap := seq_rule (c := c_u_SameRun_3) rfl
def o_u_SameRun_4 : List IS := [ip 5 (pMov (cv (.int .i64 0)))]
@[simp] def o_u_SameRun_4_ap := ops_rule (c := o_u_SameRun_4) rfl
def o_u_SameRun_5 : List IS := [ip 42 (pMov (tg 5)),
  ip 43 (pFaddr 0 (tg 2)),
  il 44 (tg 43) (mLoad1 (tg 43)),
  ip 45 (pLen (tg 44)),
  ip 46 (pBin .lss (tg 42) (tg 45))]
@[simp] def o_u_SameRun_5_ap := ops_rule (c := o_u_SameRun_5) rfl
def c_u_SameRun_4 : SC := sCond (tg 46) sSkip (sExit 0)
@[simp] def c_u_SameRun_4_ap := cond_rule (c := c_u_SameRun_4) rfl
def c_u_SameRun_5 : SC := sSeq (sReg (seqI o_u_SameRun_5)) c_u_SameRun_4
@[simp] def c_u_SameRun_5_ap := seq_rule (c := c_u_SameRun_5) rfl
def o_u_SameRun_6 : List DA := [⟨CI.pure (pFaddr 0 (tg 2)), (some 49), none, 0, []⟩,
  ⟨CI.load (tg 49) (mLoad1 (tg 49)), (some 50), none, 1, []⟩,
  ⟨CI.pure (pMov (tg 5)), (some 51), none, 2, []⟩,
  ⟨CI.pure (pIaddrS 5 (tg 50) (tg 51)), (some 52), none, 3, []⟩,
  ⟨CI.load (tg 52) (mLoadN 5 (tg 52)), (some 53), none, 4, []⟩,
  ⟨CI.pure (pFaddr 0 (tg 3)), (some 54), none, 5, []⟩,
  ⟨CI.load (tg 54) (mLoad1 (tg 54)), (some 55), none, 6, []⟩,
  ⟨CI.pure (pMov (tg 5)), (some 56), none, 7, []⟩,
  ⟨CI.pure (pIaddrS 5 (tg 55) (tg 56)), (some 57), none, 8, []⟩,
  ⟨CI.load (tg 57) (mLoadN 5 (tg 57)), (some 58), none, 9, []⟩,
  ⟨CI.pure (pEqF true [1, 1, 1, 1, 1] (tg 53) (tg 58)), (some 59), none, 10, []⟩]
@[simp] def o_u_SameRun_6_ap := das_rule (c := o_u_SameRun_6) rfl
def o_u_SameRun_7 : List IS := [ip 4 (pMov (cv (.bool false)))]
@[simp] def o_u_SameRun_7_ap := ops_rule (c := o_u_SameRun_7) rfl
def c_u_SameRun_6 : SC := sSeq (sReg (seqI o_u_SameRun_7)) sRet
@[simp] def c_u_SameRun_6_ap := seq_rule (c := c_u_SameRun_6) rfl
def c_u_SameRun_7 : SC := sCond (tg 59) c_u_SameRun_6 sSkip
@[simp] def c_u_SameRun_7_ap := cond_rule (c := c_u_SameRun_7) rfl
def c_u_SameRun_8 : SC := sSeq (sAny o_u_SameRun_6) c_u_SameRun_7
@[simp] def c_u_SameRun_8_ap := seq_rule (c := c_u_SameRun_8) rfl
def c_u_SameRun_9 : SC := sBlock 1 c_u_SameRun_8
@[simp] def c_u_SameRun_9_ap := block_rule (c := c_u_SameRun_9) rfl
def o_u_SameRun_8 : List IS := [ip 47 (pMov (tg 5)),
  ip 48 (pBin .add (tg 47) (cv (.int .i64 1))),
  ip 5 (pMov (tg 48))]
@[simp] def o_u_SameRun_8_ap := ops_rule (c := o_u_SameRun_8) rfl
def c_u_SameRun_10 : SC := sSeq c_u_SameRun_9 (sReg (seqI o_u_SameRun_8))
@[simp] def c_u_SameRun_10_ap := seq_rule (c := c_u_SameRun_10) rfl
def c_u_SameRun_11 : SC := sSeq c_u_SameRun_5 c_u_SameRun_10
@[simp] def c_u_SameRun_11_ap := seq_rule (c := c_u_SameRun_11) rfl
def c_u_SameRun_12 : SC := sLoop c_u_SameRun_11
def c_u_SameRun_13 : SC := sBlock 0 c_u_SameRun_12
@[simp] def c_u_SameRun_13_ap := block_rule (c := c_u_SameRun_13) rfl
def c_u_SameRun_14 : SC := sSeq (sReg (seqI o_u_SameRun_4)) c_u_SameRun_13
@[simp] def c_u_SameRun_14_ap := seq_rule (c := c_u_SameRun_14) rfl
def o_u_SameRun_9 : List IS := [ip 60 (pFaddr 1 (tg 2)),
  il 61 (tg 60) (mLoad1 (tg 60)),
  ip 62 (pFaddr 1 (tg 3)),
  il 63 (tg 62) (mLoad1 (tg 62)),
  im 3 64 (mCall 26 [(tg 61), (tg 63)]),
  ip 65 (pMov (tg 64)),
  gd 65 true (some 66) (ip 66 (pFaddr 2 (tg 2))),
  gd 65 true (some 67) (il 67 (tg 66) (mLoad1 (tg 66))),
  gd 65 true (some 68) (ip 68 (pFaddr 2 (tg 3))),
  gd 65 true (some 69) (il 69 (tg 68) (mLoad1 (tg 68))),
  gd 65 true (some 70) (im 3 70 (mCall 26 [(tg 67), (tg 69)])),
  ip 71 (pPick (tg 65) (tg 70) (cv (.bool false))),
  ip 72 (pMov (tg 71)),
  gd 72 true (some 73) (ip 73 (pFaddr 3 (tg 2))),
  gd 72 true (some 74) (il 74 (tg 73) (mLoad1 (tg 73))),
  gd 72 true (some 75) (ip 75 (pFaddr 3 (tg 3))),
  gd 72 true (some 76) (il 76 (tg 75) (mLoad1 (tg 75))),
  gd 72 true (some 77) (im 3 77 (mCall 26 [(tg 74), (tg 76)])),
  ip 78 (pPick (tg 72) (tg 77) (cv (.bool false))),
  ip 79 (pMov (tg 78)),
  gd 79 true (some 80) (ip 80 (pFaddr 4 (tg 2))),
  gd 79 true (some 81) (il 81 (tg 80) (mLoad1 (tg 80))),
  gd 79 true (some 82) (ip 82 (pFaddr 4 (tg 3))),
  gd 79 true (some 83) (il 83 (tg 82) (mLoad1 (tg 82))),
  gd 79 true (some 84) (im 3 84 (mCall 26 [(tg 81), (tg 83)])),
  ip 85 (pPick (tg 79) (tg 84) (cv (.bool false))),
  ip 4 (pMov (tg 85))]
@[simp] def o_u_SameRun_9_ap := ops_rule (c := o_u_SameRun_9) rfl
def c_u_SameRun_15 : SC := sSeq (sReg (seqI o_u_SameRun_9)) sRet
@[simp] def c_u_SameRun_15_ap := seq_rule (c := c_u_SameRun_15) rfl
def c_u_SameRun_16 : SC := sSeq c_u_SameRun_14 c_u_SameRun_15
@[simp] def c_u_SameRun_16_ap := seq_rule (c := c_u_SameRun_16) rfl
def c_u_SameRun_17 : SC := sSeq c_u_SameRun_3 c_u_SameRun_16
@[simp] def c_u_SameRun_17_ap := seq_rule (c := c_u_SameRun_17) rfl
def c_u_SameRun_18 : SC := sSeq (sReg (seqI o_u_SameRun_1)) c_u_SameRun_17
@[simp] def c_u_SameRun_18_ap := seq_rule (c := c_u_SameRun_18) rfl
def d_u_SameRun : DFn := ⟨c_u_SameRun_18, 86, [.t 4]⟩
theorem d_u_SameRun_ok : fnOf Try.prog 11 = some d_u_SameRun := by kernel_rfl
def o_h_New_1 : List IS := [im 1 2 (mBox (tg 0)),
  ip 4 (pMov (cv (.pointer none))),
  ip 5 (pMov (cv (.int .i64 0)))]
@[simp] def o_h_New_1_ap := ops_rule (c := o_h_New_1) rfl
def o_h_New_2 : List IS := [il 9 (tg 2) (mLoadN 2 (tg 2)),
  im 3 10 (mCall 21 [(tg 9)]),
  ip 11 (pUn .not (tg 10)),
  ip 12 (pMov (tg 11)),
  gd 12 false (some 13) (ip 13 (pMov (tg 1))),
  gd 12 false (some 14) (ip 14 (pBin .lss (tg 13) (cv (.int .i64 0)))),
  ip 15 (pPick (tg 12) (cv (.bool true)) (tg 14)),
  ip 16 (pMov (tg 15)),
  gd 16 false (some 17) (ip 17 (pMov (tg 1))),
  gd 16 false (some 18) (ip 18 (pFaddr 1 (tg 2))),
  gd 16 false (some 19) (il 19 (tg 18) (mLoad1 (tg 18))),
  gd 16 false (some 20) (ip 20 (pLen (tg 19))),
  gd 16 false (some 21) (ip 21 (pBin .geq (tg 17) (tg 20))),
  ip 22 (pPick (tg 16) (cv (.bool true)) (tg 21))]
@[simp] def o_h_New_2_ap := ops_rule (c := o_h_New_2) rfl
def o_h_New_3 : List IS := [ip 4 (pMov (cv (.pointer none))),
  ip 5 (pMov (cv (.int .i64 1)))]
@[simp] def o_h_New_3_ap := ops_rule (c := o_h_New_3) rfl
def c_h_New_1 : SC := sSeq (sReg (seqI o_h_New_3)) sRet
@[simp] def c_h_New_1_ap := seq_rule (c := c_h_New_1) rfl
def c_h_New_2 : SC := sCond (tg 22) c_h_New_1 sSkip
@[simp] def c_h_New_2_ap := cond_rule (c := c_h_New_2) rfl
def c_h_New_3 : SC := sSeq (sReg (seqI o_h_New_2)) c_h_New_2
@[simp] def c_h_New_3_ap := seq_rule (c := c_h_New_3) rfl
def o_h_New_4 : List IS := [ip 23 (pFaddr 1 (tg 2)),
  il 24 (tg 23) (mLoad1 (tg 23)),
  ip 25 (pMov (tg 1)),
  ip 26 (pIaddrS 2 (tg 24) (tg 25)),
  il 27 (tg 26) (mLoadN 2 (tg 26)),
  im 1 6 (mAlloc [(.int .i64 0), (.slice none 0 0)]),
  im0 3 (mStore 2 (tg 6) (tg 27))]
@[simp] def o_h_New_4_ap := ops_rule (c := o_h_New_4) rfl
def o_h_New_5 : List IS := [ip 28 (pFaddr 1 (tg 6)),
  il 29 (tg 28) (mLoad1 (tg 28)),
  im 3 30 (mCall 27 [(tg 29)]),
  ip 31 (pFaddr 1 (tg 6)),
  im0 3 (mStore 1 (tg 31) (tg 30))]
@[simp] def o_h_New_5_ap := ops_rule (c := o_h_New_5) rfl
def o_h_New_6 : List IS := [ip 32 (pFaddr 1 (tg 6)),
  il 33 (tg 32) (mLoad1 (tg 32)),
  ip 34 (pLen (tg 33)),
  ip 35 (pMov (cv (.int .i64 0)))]
@[simp] def o_h_New_6_ap := ops_rule (c := o_h_New_6) rfl
def o_h_New_7 : List IS := [ip 36 (pBin .lss (tg 35) (tg 34))]
@[simp] def o_h_New_7_ap := ops_rule (c := o_h_New_7) rfl
def c_h_New_4 : SC := sCond (tg 36) sSkip (sExit 0)
@[simp] def c_h_New_4_ap := cond_rule (c := c_h_New_4) rfl
def o_h_New_8 : List IS := [ip 37 (pMov (tg 35)),
  ip 38 (pIaddrS 11 (tg 33) (tg 35)),
  il 39 (tg 38) (mLoadN 11 (tg 38)),
  im 1 8 (mAlloc [(.int .i64 0), (.int .i64 0), (.int .i64 0), (.int .i64 0), (.slice none 0 0), (.slice none 0 0), (.slice none 0 0), (.int .i64 0), (.int .i64 0), (.int .i64 0), (.int .i64 0)]),
  ip 7 (pMov (tg 37)),
  im0 3 (mStore 11 (tg 8) (tg 39))]
@[simp] def o_h_New_8_ap := ops_rule (c := o_h_New_8) rfl
def o_h_New_9 : List DA := [⟨CI.pure (pFaddr 1 (tg 6)), (some 40), none, 0, []⟩,
  ⟨CI.load (tg 40) (mLoad1 (tg 40)), (some 41), none, 1, []⟩,
  ⟨CI.pure (pMov (tg 7)), (some 42), none, 2, []⟩,
  ⟨CI.pure (pFaddr 1 (tg 6)), (some 43), none, 3, []⟩,
  ⟨CI.load (tg 43) (mLoad1 (tg 43)), (some 44), none, 4, []⟩,
  ⟨CI.pure (pMov (tg 7)), (some 45), none, 5, []⟩,
  ⟨CI.pure (pFaddr 1 (tg 6)), (some 46), none, 6, []⟩,
  ⟨CI.load (tg 46) (mLoad1 (tg 46)), (some 47), none, 7, []⟩,
  ⟨CI.pure (pMov (tg 7)), (some 48), none, 8, []⟩,
  ⟨CI.pure (pFaddr 5 (tg 8)), (some 49), none, 9, []⟩,
  ⟨CI.load (tg 49) (mLoad1 (tg 49)), (some 50), none, 10, []⟩,
  ⟨CI.mem 3 (mCall 28 [(tg 50)]), (some 51), none, 11, [1, 4, 7]⟩,
  ⟨CI.pure (pFaddr 6 (tg 8)), (some 52), none, 12, []⟩,
  ⟨CI.load (tg 52) (mLoad1 (tg 52)), (some 53), none, 13, [11]⟩,
  ⟨CI.mem 3 (mCall 28 [(tg 53)]), (some 54), none, 14, [1, 4, 7]⟩,
  ⟨CI.pure (pFaddr 4 (tg 8)), (some 55), none, 15, []⟩,
  ⟨CI.load (tg 55) (mLoad1 (tg 55)), (some 56), none, 16, [11, 14]⟩,
  ⟨CI.mem 3 (mCall 28 [(tg 56)]), (some 57), none, 17, [1, 4, 7]⟩,
  ⟨CI.pure (pIaddrS 11 (tg 41) (tg 42)), (some 58), none, 18, []⟩,
  ⟨CI.pure (pFaddr 5 (tg 58)), (some 59), none, 19, []⟩,
  ⟨CI.mem 3 (mStore 1 (tg 59) (tg 51)), none, none, 20, [4, 7]⟩,
  ⟨CI.pure (pIaddrS 11 (tg 44) (tg 45)), (some 60), none, 21, []⟩,
  ⟨CI.pure (pFaddr 6 (tg 60)), (some 61), none, 22, []⟩,
  ⟨CI.mem 3 (mStore 1 (tg 61) (tg 54)), none, none, 23, [7]⟩,
  ⟨CI.pure (pIaddrS 11 (tg 47) (tg 48)), (some 62), none, 24, []⟩,
  ⟨CI.pure (pFaddr 4 (tg 62)), (some 63), none, 25, []⟩,
  ⟨CI.mem 3 (mStore 1 (tg 63) (tg 57)), none, none, 26, []⟩]
@[simp] def o_h_New_9_ap := das_rule (c := o_h_New_9) rfl
def c_h_New_5 : SC := sSeq (sReg (seqI o_h_New_8)) (sAny o_h_New_9)
@[simp] def c_h_New_5_ap := seq_rule (c := c_h_New_5) rfl
def c_h_New_6 : SC := sBlock 1 c_h_New_5
@[simp] def c_h_New_6_ap := block_rule (c := c_h_New_6) rfl
def o_h_New_10 : List IS := [ip 64 (pBin .add (tg 35) (cv (.int .i64 1))),
  ip 35 (pMov (tg 64))]
@[simp] def o_h_New_10_ap := ops_rule (c := o_h_New_10) rfl
def c_h_New_7 : SC := sSeq c_h_New_6 (sReg (seqI o_h_New_10))
@[simp] def c_h_New_7_ap := seq_rule (c := c_h_New_7) rfl
def c_h_New_8 : SC := sSeq c_h_New_4 c_h_New_7
@[simp] def c_h_New_8_ap := seq_rule (c := c_h_New_8) rfl
def c_h_New_9 : SC := sSeq (sReg (seqI o_h_New_7)) c_h_New_8
@[simp] def c_h_New_9_ap := seq_rule (c := c_h_New_9) rfl
def c_h_New_10 : SC := sLoop c_h_New_9
def c_h_New_11 : SC := sBlock 0 c_h_New_10
@[simp] def c_h_New_11_ap := block_rule (c := c_h_New_11) rfl
def c_h_New_12 : SC := sSeq (sReg (seqI o_h_New_6)) c_h_New_11
@[simp] def c_h_New_12_ap := seq_rule (c := c_h_New_12) rfl
def o_h_New_11 : List DA := [⟨CI.load (tg 6) (mLoadN 2 (tg 6)), (some 65), none, 0, []⟩,
  ⟨CI.pure (pFaddr 0 (tg 6)), (some 66), none, 1, []⟩,
  ⟨CI.load (tg 66) (mLoad1 (tg 66)), (some 67), none, 2, []⟩,
  ⟨CI.mem 1 (mMkslice 1 8 [(.int .u64 0)] (tg 67) (tg 67)), (some 68), none, 3, []⟩,
  ⟨CI.pure (pBuild [(.int .i64 0), (.slice none 0 0), (.int .i64 0), (.slice none 0 0), (.int .i64 0), (.int .i64 0), (.int .i64 0), (.int .u64 0), (.bool false), (.bool false), (.bool false), (.int .u64 0), (.bool false)] [(0, 2, (tg 65)), (3, 1, (tg 68))]), (some 69), none, 4, []⟩,
  ⟨CI.mem 1 (mBox (tg 69)), (some 70), none, 5, []⟩,
  ⟨CI.pure (pMov (tg 70)), (some 4), none, 6, []⟩,
  ⟨CI.pure (pMov (cv (.int .i64 0))), (some 5), none, 7, []⟩]
@[simp] def o_h_New_11_ap := das_rule (c := o_h_New_11) rfl
def c_h_New_13 : SC := sSeq (sAny o_h_New_11) sRet
@[simp] def c_h_New_13_ap := seq_rule (c := c_h_New_13) rfl
def c_h_New_14 : SC := sSeq c_h_New_12 c_h_New_13
@[simp] def c_h_New_14_ap := seq_rule (c := c_h_New_14) rfl
def c_h_New_15 : SC := sSeq (sReg (seqI o_h_New_5)) c_h_New_14
@[simp] def c_h_New_15_ap := seq_rule (c := c_h_New_15) rfl
def c_h_New_16 : SC := sSeq (sReg (seqI o_h_New_4)) c_h_New_15
@[simp] def c_h_New_16_ap := seq_rule (c := c_h_New_16) rfl
def c_h_New_17 : SC := sSeq c_h_New_3 c_h_New_16
@[simp] def c_h_New_17_ap := seq_rule (c := c_h_New_17) rfl
def c_h_New_18 : SC := sSeq (sReg (seqI o_h_New_1)) c_h_New_17
@[simp] def c_h_New_18_ap := seq_rule (c := c_h_New_18) rfl
def d_h_New : DFn := ⟨c_h_New_18, 71, [.t 4, .t 5]⟩
theorem d_h_New_ok : fnOf Try.prog 12 = some d_h_New := by kernel_rfl
def o_h_Machine_Next_1 : List IS := [im 1 2 (mAlloc [(.int .i64 0), (.int .i64 0), (.int .i64 0), (.int .u64 0), (.bool false), (.bool false)])]
@[simp] def o_h_Machine_Next_1_ap := ops_rule (c := o_h_Machine_Next_1) rfl
def o_h_Machine_Next_2 : List IS := [ip 6 (pMov (tg 0)),
  ip 7 (pNilck (tg 6)),
  ip 8 (pFaddr 10 (tg 7)),
  il 9 (tg 8) (mLoad1 (tg 8)),
  ip 10 (pMov (tg 9)),
  gd 10 true (some 11) (ip 11 (pMov (tg 0))),
  gd 10 true (some 12) (ip 12 (pNilck (tg 11))),
  gd 10 true (some 13) (ip 13 (pFaddr 4 (tg 12))),
  gd 10 true (some 14) (ip 14 (pFaddr 0 (tg 13))),
  gd 10 true (some 15) (il 15 (tg 14) (mLoad1 (tg 14))),
  gd 10 true (some 16) (ip 16 (pBin .neq (tg 15) (cv (.int .i64 6)))),
  ip 17 (pPick (tg 10) (tg 16) (cv (.bool false)))]
@[simp] def o_h_Machine_Next_2_ap := ops_rule (c := o_h_Machine_Next_2) rfl
def o_h_Machine_Next_3 : List IS := [ip 18 (pMov (tg 0)),
  ip 19 (pNilck (tg 18)),
  ip 20 (pFaddr 4 (tg 19)),
  il 21 (tg 20) (mLoadN 6 (tg 20)),
  im0 3 (mStore 6 (tg 2) (tg 21))]
@[simp] def o_h_Machine_Next_3_ap := ops_rule (c := o_h_Machine_Next_3) rfl
def c_h_Machine_Next_1 : SC := sSeq (sReg (seqI o_h_Machine_Next_3)) sRet
@[simp] def c_h_Machine_Next_1_ap := seq_rule (c := c_h_Machine_Next_1) rfl
def c_h_Machine_Next_2 : SC := sCond (tg 17) c_h_Machine_Next_1 sSkip
@[simp] def c_h_Machine_Next_2_ap := cond_rule (c := c_h_Machine_Next_2) rfl
def c_h_Machine_Next_3 : SC := sSeq (sReg (seqI o_h_Machine_Next_2)) c_h_Machine_Next_2
@[simp] def c_h_Machine_Next_3_ap := seq_rule (c := c_h_Machine_Next_3) rfl
def o_h_Machine_Next_4 : List IS := [ip 22 (pMov (tg 0)),
  ip 23 (pNilck (tg 22)),
  ip 24 (pFaddr 10 (tg 23)),
  im0 3 (mStore 1 (tg 24) (cv (.bool true)))]
@[simp] def o_h_Machine_Next_4_ap := ops_rule (c := o_h_Machine_Next_4) rfl
def o_h_Machine_Next_5 : List IS := [ip 25 (pMov (cv (.int .i64 0)))]
@[simp] def o_h_Machine_Next_5_ap := ops_rule (c := o_h_Machine_Next_5) rfl
def o_h_Machine_Next_6 : List IS := [ip 26 (pBin .lss (tg 25) (cv (.int .i64 100000)))]
@[simp] def o_h_Machine_Next_6_ap := ops_rule (c := o_h_Machine_Next_6) rfl
def c_h_Machine_Next_4 : SC := sCond (tg 26) sSkip (sExit 0)
@[simp] def c_h_Machine_Next_4_ap := cond_rule (c := c_h_Machine_Next_4) rfl
def o_h_Machine_Next_7 : List DA := [⟨CI.pure (pMov (tg 0)), (some 27), none, 0, []⟩,
  ⟨CI.pure (pNilck (tg 27)), (some 28), none, 1, []⟩,
  ⟨CI.pure (pFaddr 2 (tg 28)), (some 29), none, 2, []⟩,
  ⟨CI.load (tg 29) (mLoad1 (tg 29)), (some 30), none, 3, []⟩,
  ⟨CI.pure (pMov (tg 0)), (some 31), none, 4, []⟩,
  ⟨CI.pure (pNilck (tg 31)), (some 32), none, 5, []⟩,
  ⟨CI.pure (pFaddr 0 (tg 32)), (some 33), none, 6, []⟩,
  ⟨CI.pure (pFaddr 1 (tg 33)), (some 34), none, 7, []⟩,
  ⟨CI.load (tg 34) (mLoad1 (tg 34)), (some 35), none, 8, []⟩,
  ⟨CI.pure (pLen (tg 35)), (some 36), none, 9, []⟩,
  ⟨CI.pure (pBin .eql (tg 30) (tg 36)), (some 37), none, 10, []⟩]
@[simp] def o_h_Machine_Next_7_ap := das_rule (c := o_h_Machine_Next_7) rfl
def o_h_Machine_Next_8 : List IS := [ip 38 (pMov (tg 0)),
  ip 39 (pBuild [(.int .i64 0), (.int .i64 0), (.int .i64 0), (.int .u64 0), (.bool false), (.bool false)] [(0, 1, (cv (.int .i64 5)))]),
  ip 40 (pNilck (tg 38)),
  ip 41 (pFaddr 4 (tg 40)),
  im0 3 (mStore 6 (tg 41) (tg 39))]
@[simp] def o_h_Machine_Next_8_ap := ops_rule (c := o_h_Machine_Next_8) rfl
def o_h_Machine_Next_9 : List IS := [ip 42 (pMov (tg 0)),
  ip 43 (pNilck (tg 42)),
  ip 44 (pFaddr 4 (tg 43)),
  il 45 (tg 44) (mLoadN 6 (tg 44)),
  im0 3 (mStore 6 (tg 2) (tg 45))]
@[simp] def o_h_Machine_Next_9_ap := ops_rule (c := o_h_Machine_Next_9) rfl
def c_h_Machine_Next_5 : SC := sSeq (sReg (seqI o_h_Machine_Next_9)) sRet
@[simp] def c_h_Machine_Next_5_ap := seq_rule (c := c_h_Machine_Next_5) rfl
def c_h_Machine_Next_6 : SC := sSeq (sReg (seqI o_h_Machine_Next_8)) c_h_Machine_Next_5
@[simp] def c_h_Machine_Next_6_ap := seq_rule (c := c_h_Machine_Next_6) rfl
def c_h_Machine_Next_7 : SC := sCond (tg 37) c_h_Machine_Next_6 sSkip
@[simp] def c_h_Machine_Next_7_ap := cond_rule (c := c_h_Machine_Next_7) rfl
def c_h_Machine_Next_8 : SC := sSeq (sAny o_h_Machine_Next_7) c_h_Machine_Next_7
@[simp] def c_h_Machine_Next_8_ap := seq_rule (c := c_h_Machine_Next_8) rfl
def o_h_Machine_Next_10 : List IS := [ip 46 (pMov (tg 0)),
  im 3 47 (mCall 16 [(tg 46)]),
  im 1 3 (mAlloc [(.int .i64 0), (.int .i64 0), (.int .i64 0), (.int .i64 0), (.slice none 0 0), (.slice none 0 0), (.slice none 0 0), (.int .i64 0), (.int .i64 0), (.int .i64 0), (.int .i64 0)]),
  im0 3 (mStore 11 (tg 3) (tg 47))]
@[simp] def o_h_Machine_Next_10_ap := ops_rule (c := o_h_Machine_Next_10) rfl
def o_h_Machine_Next_11 : List DA := [⟨CI.mem 3 (mCall 18 []), (some 48), none, 0, []⟩,
  ⟨CI.pure (pFaddr 0 (tg 3)), (some 49), none, 1, []⟩,
  ⟨CI.load (tg 49) (mLoad1 (tg 49)), (some 50), none, 2, [0]⟩,
  ⟨CI.pure (pIdx 11 false 1 (tg 48) (tg 50)), (some 51), none, 3, []⟩,
  ⟨CI.pure (pMov (tg 0)), (some 52), none, 4, []⟩,
  ⟨CI.load (tg 3) (mLoadN 11 (tg 3)), (some 53), none, 5, [0]⟩,
  ⟨CI.mem 3 (mCallv (tg 51) [(tg 52), (tg 53)]), (some 54), none, 6, []⟩,
  ⟨CI.mem 1 (mAlloc [(.int .i64 0), (.int .i64 0), (.int .i64 0), (.int .u64 0), (.bool false), (.bool false)]), (some 4), none, 7, []⟩,
  ⟨CI.mem 3 (mStore 6 (tg 4) (tg 54)), none, none, 8, []⟩]
@[simp] def o_h_Machine_Next_11_ap := das_rule (c := o_h_Machine_Next_11) rfl
def o_h_Machine_Next_12 : List IS := [il 55 (tg 3) (mLoadN 11 (tg 3)),
  im 3 56 (mCall 17 [(tg 55)]),
  ip 57 (pUn .not (tg 56))]
@[simp] def o_h_Machine_Next_12_ap := ops_rule (c := o_h_Machine_Next_12) rfl
def o_h_Machine_Next_13 : List IS := [ip 58 (pMov (tg 0)),
  il 59 (tg 4) (mLoadN 6 (tg 4)),
  ip 60 (pNilck (tg 58)),
  ip 61 (pFaddr 4 (tg 60)),
  im0 3 (mStore 6 (tg 61) (tg 59))]
@[simp] def o_h_Machine_Next_13_ap := ops_rule (c := o_h_Machine_Next_13) rfl
def o_h_Machine_Next_14 : List IS := [il 62 (tg 4) (mLoadN 6 (tg 4)),
  im0 3 (mStore 6 (tg 2) (tg 62))]
@[simp] def o_h_Machine_Next_14_ap := ops_rule (c := o_h_Machine_Next_14) rfl
def c_h_Machine_Next_9 : SC := sSeq (sReg (seqI o_h_Machine_Next_14)) sRet
@[simp] def c_h_Machine_Next_9_ap := seq_rule (c := c_h_Machine_Next_9) rfl
def c_h_Machine_Next_10 : SC := sSeq (sReg (seqI o_h_Machine_Next_13)) c_h_Machine_Next_9
@[simp] def c_h_Machine_Next_10_ap := seq_rule (c := c_h_Machine_Next_10) rfl
def c_h_Machine_Next_11 : SC := sCond (tg 57) c_h_Machine_Next_10 sSkip
@[simp] def c_h_Machine_Next_11_ap := cond_rule (c := c_h_Machine_Next_11) rfl
def c_h_Machine_Next_12 : SC := sSeq (sReg (seqI o_h_Machine_Next_12)) c_h_Machine_Next_11
@[simp] def c_h_Machine_Next_12_ap := seq_rule (c := c_h_Machine_Next_12) rfl
def c_h_Machine_Next_13 : SC := sSeq (sAny o_h_Machine_Next_11) c_h_Machine_Next_12
@[simp] def c_h_Machine_Next_13_ap := seq_rule (c := c_h_Machine_Next_13) rfl
def c_h_Machine_Next_14 : SC := sSeq (sReg (seqI o_h_Machine_Next_10)) c_h_Machine_Next_13
@[simp] def c_h_Machine_Next_14_ap := seq_rule (c := c_h_Machine_Next_14) rfl
def c_h_Machine_Next_15 : SC := sSeq c_h_Machine_Next_8 c_h_Machine_Next_14
@[simp] def c_h_Machine_Next_15_ap := seq_rule (c := c_h_Machine_Next_15) rfl
def c_h_Machine_Next_16 : SC := sBlock 1 c_h_Machine_Next_15
@[simp] def c_h_Machine_Next_16_ap := block_rule (c := c_h_Machine_Next_16) rfl
def o_h_Machine_Next_15 : List IS := [ip 63 (pBin .add (tg 25) (cv (.int .i64 1))),
  ip 25 (pMov (tg 63))]
@[simp] def o_h_Machine_Next_15_ap := ops_rule (c := o_h_Machine_Next_15) rfl
def c_h_Machine_Next_17 : SC := sSeq c_h_Machine_Next_16 (sReg (seqI o_h_Machine_Next_15))
@[simp] def c_h_Machine_Next_17_ap := seq_rule (c := c_h_Machine_Next_17) rfl
def c_h_Machine_Next_18 : SC := sSeq c_h_Machine_Next_4 c_h_Machine_Next_17
@[simp] def c_h_Machine_Next_18_ap := seq_rule (c := c_h_Machine_Next_18) rfl
def c_h_Machine_Next_19 : SC := sSeq (sReg (seqI o_h_Machine_Next_6)) c_h_Machine_Next_18
@[simp] def c_h_Machine_Next_19_ap := seq_rule (c := c_h_Machine_Next_19) rfl
def c_h_Machine_Next_20 : SC := sLoop c_h_Machine_Next_19
def c_h_Machine_Next_21 : SC := sBlock 0 c_h_Machine_Next_20
@[simp] def c_h_Machine_Next_21_ap := block_rule (c := c_h_Machine_Next_21) rfl
def c_h_Machine_Next_22 : SC := sSeq (sReg (seqI o_h_Machine_Next_5)) c_h_Machine_Next_21
@[simp] def c_h_Machine_Next_22_ap := seq_rule (c := c_h_Machine_Next_22) rfl
def o_h_Machine_Next_16 : List IS := [ip 64 (pMov (tg 0)),
  ip 65 (pBuild [(.int .i64 0), (.int .i64 0), (.int .i64 0), (.int .u64 0), (.bool false), (.bool false)] [(0, 1, (cv (.int .i64 6)))]),
  ip 66 (pNilck (tg 64)),
  ip 67 (pFaddr 4 (tg 66)),
  im0 3 (mStore 6 (tg 67) (tg 65))]
@[simp] def o_h_Machine_Next_16_ap := ops_rule (c := o_h_Machine_Next_16) rfl
def o_h_Machine_Next_17 : List DA := [⟨CI.pure (pMov (tg 0)), (some 68), none, 0, []⟩,
  ⟨CI.pure (pNilck (tg 68)), (some 69), none, 1, []⟩,
  ⟨CI.pure (pFaddr 2 (tg 69)), (some 70), none, 2, []⟩,
  ⟨CI.load (tg 70) (mLoad1 (tg 70)), (some 71), none, 3, []⟩,
  ⟨CI.pure (pMov (tg 0)), (some 72), none, 4, []⟩,
  ⟨CI.pure (pNilck (tg 72)), (some 73), none, 5, []⟩,
  ⟨CI.pure (pFaddr 0 (tg 73)), (some 74), none, 6, []⟩,
  ⟨CI.pure (pFaddr 1 (tg 74)), (some 75), none, 7, []⟩,
  ⟨CI.load (tg 75) (mLoad1 (tg 75)), (some 76), none, 8, []⟩,
  ⟨CI.pure (pLen (tg 76)), (some 77), none, 9, []⟩,
  ⟨CI.pure (pBin .eql (tg 71) (tg 77)), (some 78), none, 10, []⟩]
@[simp] def o_h_Machine_Next_17_ap := das_rule (c := o_h_Machine_Next_17) rfl
def o_h_Machine_Next_18 : List IS := [ip 79 (pMov (tg 0)),
  ip 80 (pNilck (tg 79)),
  ip 81 (pFaddr 4 (tg 80)),
  ip 82 (pFaddr 0 (tg 81)),
  im0 3 (mStore 1 (tg 82) (cv (.int .i64 5)))]
@[simp] def o_h_Machine_Next_18_ap := ops_rule (c := o_h_Machine_Next_18) rfl
def o_h_Machine_Next_19 : List IS := [ip 83 (pMov (tg 0)),
  im 3 84 (mCall 16 [(tg 83)]),
  im 1 5 (mAlloc [(.int .i64 0), (.int .i64 0), (.int .i64 0), (.int .i64 0), (.slice none 0 0), (.slice none 0 0), (.slice none 0 0), (.int .i64 0), (.int .i64 0), (.int .i64 0), (.int .i64 0)]),
  im0 3 (mStore 11 (tg 5) (tg 84))]
@[simp] def o_h_Machine_Next_19_ap := ops_rule (c := o_h_Machine_Next_19) rfl
def o_h_Machine_Next_20 : List IS := [il 85 (tg 5) (mLoadN 11 (tg 5)),
  im 3 86 (mCall 17 [(tg 85)]),
  ip 87 (pUn .not (tg 86))]
@[simp] def o_h_Machine_Next_20_ap := ops_rule (c := o_h_Machine_Next_20) rfl
def o_h_Machine_Next_21 : List DA := [⟨CI.pure (pMov (tg 0)), (some 88), none, 0, []⟩,
  ⟨CI.mem 3 (mCall 18 []), (some 89), none, 1, []⟩,
  ⟨CI.pure (pFaddr 0 (tg 5)), (some 90), none, 2, []⟩,
  ⟨CI.load (tg 90) (mLoad1 (tg 90)), (some 91), none, 3, [1]⟩,
  ⟨CI.pure (pIdx 11 false 1 (tg 89) (tg 91)), (some 92), none, 4, []⟩,
  ⟨CI.pure (pMov (tg 0)), (some 93), none, 5, []⟩,
  ⟨CI.load (tg 5) (mLoadN 11 (tg 5)), (some 94), none, 6, [1]⟩,
  ⟨CI.mem 3 (mCallv (tg 92) [(tg 93), (tg 94)]), (some 95), none, 7, []⟩,
  ⟨CI.pure (pNilck (tg 88)), (some 96), none, 8, []⟩,
  ⟨CI.pure (pFaddr 4 (tg 96)), (some 97), none, 9, []⟩,
  ⟨CI.mem 3 (mStore 6 (tg 97) (tg 95)), none, none, 10, []⟩]
@[simp] def o_h_Machine_Next_21_ap := das_rule (c := o_h_Machine_Next_21) rfl
def c_h_Machine_Next_23 : SC := sCond (tg 87) (sAny o_h_Machine_Next_21) sSkip
@[simp] def c_h_Machine_Next_23_ap := cond_rule (c := c_h_Machine_Next_23) rfl
def c_h_Machine_Next_24 : SC := sSeq (sReg (seqI o_h_Machine_Next_20)) c_h_Machine_Next_23
@[simp] def c_h_Machine_Next_24_ap := seq_rule (c := c_h_Machine_Next_24) rfl
def c_h_Machine_Next_25 : SC := sSeq (sReg (seqI o_h_Machine_Next_19)) c_h_Machine_Next_24
@[simp] def c_h_Machine_Next_25_ap := seq_rule (c := c_h_Machine_Next_25) rfl
def c_h_Machine_Next_26 : SC := sCond (tg 78) (sReg (seqI o_h_Machine_Next_18)) c_h_Machine_Next_25
@[simp] def c_h_Machine_Next_26_ap := cond_rule (c := c_h_Machine_Next_26) rfl
def c_h_Machine_Next_27 : SC := sSeq (sAny o_h_Machine_Next_17) c_h_Machine_Next_26
@[simp] def c_h_Machine_Next_27_ap := seq_rule (c := c_h_Machine_Next_27) rfl
def o_h_Machine_Next_22 : List IS := [ip 98 (pMov (tg 0)),
  ip 99 (pNilck (tg 98)),
  ip 100 (pFaddr 4 (tg 99)),
  il 101 (tg 100) (mLoadN 6 (tg 100)),
  im0 3 (mStore 6 (tg 2) (tg 101))]
@[simp] def o_h_Machine_Next_22_ap := ops_rule (c := o_h_Machine_Next_22) rfl
def c_h_Machine_Next_28 : SC := sSeq (sReg (seqI o_h_Machine_Next_22)) sRet
@[simp] def c_h_Machine_Next_28_ap := seq_rule (c := c_h_Machine_Next_28) rfl
def c_h_Machine_Next_29 : SC := sSeq c_h_Machine_Next_27 c_h_Machine_Next_28
@[simp] def c_h_Machine_Next_29_ap := seq_rule (c := c_h_Machine_Next_29) rfl
def c_h_Machine_Next_30 : SC := sSeq (sReg (seqI o_h_Machine_Next_16)) c_h_Machine_Next_29
@[simp] def c_h_Machine_Next_30_ap := seq_rule (c := c_h_Machine_Next_30) rfl
def c_h_Machine_Next_31 : SC := sSeq c_h_Machine_Next_22 c_h_Machine_Next_30
@[simp] def c_h_Machine_Next_31_ap := seq_rule (c := c_h_Machine_Next_31) rfl
def c_h_Machine_Next_32 : SC := sSeq (sReg (seqI o_h_Machine_Next_4)) c_h_Machine_Next_31
@[simp] def c_h_Machine_Next_32_ap := seq_rule (c := c_h_Machine_Next_32) rfl
def c_h_Machine_Next_33 : SC := sSeq c_h_Machine_Next_3 c_h_Machine_Next_32
@[simp] def c_h_Machine_Next_33_ap := seq_rule (c := c_h_Machine_Next_33) rfl
def c_h_Machine_Next_34 : SC := sSeq (sReg (seqI o_h_Machine_Next_1)) c_h_Machine_Next_33
@[simp] def c_h_Machine_Next_34_ap := seq_rule (c := c_h_Machine_Next_34) rfl
def d_h_Machine_Next : DFn := ⟨c_h_Machine_Next_34, 102, [.cell 2 6]⟩
theorem d_h_Machine_Next_ok : fnOf Try.prog 13 = some d_h_Machine_Next := by kernel_rfl
def o_h_Machine_Feed_1 : List IS := [ip 4 (pMov (cv (.int .i64 0)))]
@[simp] def o_h_Machine_Feed_1_ap := ops_rule (c := o_h_Machine_Feed_1) rfl
def o_h_Machine_Feed_2 : List IS := [ip 6 (pMov (tg 0)),
  ip 7 (pNilck (tg 6)),
  ip 8 (pFaddr 10 (tg 7)),
  il 9 (tg 8) (mLoad1 (tg 8)),
  ip 10 (pUn .not (tg 9)),
  ip 11 (pMov (tg 10)),
  gd 11 false (some 12) (ip 12 (pMov (tg 0))),
  gd 11 false (some 13) (ip 13 (pNilck (tg 12))),
  gd 11 false (some 14) (ip 14 (pFaddr 4 (tg 13))),
  gd 11 false (some 15) (ip 15 (pFaddr 0 (tg 14))),
  gd 11 false (some 16) (il 16 (tg 15) (mLoad1 (tg 15))),
  gd 11 false (some 17) (ip 17 (pBin .eql (tg 16) (cv (.int .i64 5)))),
  ip 18 (pPick (tg 11) (cv (.bool true)) (tg 17)),
  ip 19 (pMov (tg 18)),
  gd 19 false (some 20) (ip 20 (pMov (tg 0))),
  gd 19 false (some 21) (ip 21 (pNilck (tg 20))),
  gd 19 false (some 22) (ip 22 (pFaddr 4 (tg 21))),
  gd 19 false (some 23) (ip 23 (pFaddr 0 (tg 22))),
  gd 19 false (some 24) (il 24 (tg 23) (mLoad1 (tg 23))),
  gd 19 false (some 25) (ip 25 (pBin .eql (tg 24) (cv (.int .i64 6)))),
  ip 26 (pPick (tg 19) (cv (.bool true)) (tg 25))]
@[simp] def o_h_Machine_Feed_2_ap := ops_rule (c := o_h_Machine_Feed_2) rfl
def o_h_Machine_Feed_3 : List IS := [ip 4 (pMov (cv (.int .i64 1)))]
@[simp] def o_h_Machine_Feed_3_ap := ops_rule (c := o_h_Machine_Feed_3) rfl
def c_h_Machine_Feed_1 : SC := sSeq (sReg (seqI o_h_Machine_Feed_3)) sRet
@[simp] def c_h_Machine_Feed_1_ap := seq_rule (c := c_h_Machine_Feed_1) rfl
def c_h_Machine_Feed_2 : SC := sCond (tg 26) c_h_Machine_Feed_1 sSkip
@[simp] def c_h_Machine_Feed_2_ap := cond_rule (c := c_h_Machine_Feed_2) rfl
def c_h_Machine_Feed_3 : SC := sSeq (sReg (seqI o_h_Machine_Feed_2)) c_h_Machine_Feed_2
@[simp] def c_h_Machine_Feed_3_ap := seq_rule (c := c_h_Machine_Feed_3) rfl
def o_h_Machine_Feed_4 : List IS := [ip 27 (pMov (tg 0)),
  ip 28 (pNilck (tg 27)),
  ip 29 (pFaddr 10 (tg 28)),
  im0 3 (mStore 1 (tg 29) (cv (.bool false)))]
@[simp] def o_h_Machine_Feed_4_ap := ops_rule (c := o_h_Machine_Feed_4) rfl
def o_h_Machine_Feed_5 : List IS := [ip 30 (pMov (tg 0)),
  im 3 31 (mCall 16 [(tg 30)]),
  im 1 5 (mAlloc [(.int .i64 0), (.int .i64 0), (.int .i64 0), (.int .i64 0), (.slice none 0 0), (.slice none 0 0), (.slice none 0 0), (.int .i64 0), (.int .i64 0), (.int .i64 0), (.int .i64 0)]),
  im0 3 (mStore 11 (tg 5) (tg 31))]
@[simp] def o_h_Machine_Feed_5_ap := ops_rule (c := o_h_Machine_Feed_5) rfl
def o_h_Machine_Feed_6 : List IS := [ip 32 (pMov (tg 0)),
  ip 33 (pNilck (tg 32)),
  ip 34 (pFaddr 4 (tg 33)),
  ip 35 (pFaddr 0 (tg 34)),
  il 36 (tg 35) (mLoad1 (tg 35)),
  ip 37 (pBin .eql (tg 36) (cv (.int .i64 1))),
  ip 38 (pMov (tg 37)),
  gd 38 true (some 39) (ip 39 (pMov (tg 0))),
  gd 38 true (some 40) (ip 40 (pNilck (tg 39))),
  gd 38 true (some 41) (ip 41 (pFaddr 4 (tg 40))),
  gd 38 true (some 42) (ip 42 (pFaddr 4 (tg 41))),
  gd 38 true (some 43) (il 43 (tg 42) (mLoad1 (tg 42))),
  ip 44 (pPick (tg 38) (tg 43) (cv (.bool false)))]
@[simp] def o_h_Machine_Feed_6_ap := ops_rule (c := o_h_Machine_Feed_6) rfl
def o_h_Machine_Feed_7 : List IS := [ip 45 (pMov (tg 0)),
  ip 46 (pMov (tg 1)),
  ip 47 (pNilck (tg 45)),
  ip 48 (pFaddr 11 (tg 47)),
  im0 3 (mStore 1 (tg 48) (tg 46))]
@[simp] def o_h_Machine_Feed_7_ap := ops_rule (c := o_h_Machine_Feed_7) rfl
def o_h_Machine_Feed_8 : List DA := [⟨CI.pure (pFaddr 0 (tg 5)), (some 49), none, 0, []⟩,
  ⟨CI.load (tg 49) (mLoad1 (tg 49)), (some 50), none, 1, []⟩,
  ⟨CI.pure (pBin .neq (tg 50) (cv (.int .i64 6))), (some 51), none, 2, []⟩,
  ⟨CI.pure (pMov (tg 51)), (some 52), none, 3, []⟩,
  ⟨CI.pure (pFaddr 5 (tg 5)), (some 53), (some (52, false)), 4, []⟩,
  ⟨CI.load (tg 53) (mLoad1 (tg 53)), (some 54), (some (52, false)), 5, []⟩,
  ⟨CI.pure (pMov (tg 0)), (some 55), (some (52, false)), 6, []⟩,
  ⟨CI.pure (pNilck (tg 55)), (some 56), (some (52, false)), 7, []⟩,
  ⟨CI.pure (pFaddr 3 (tg 56)), (some 57), (some (52, false)), 8, []⟩,
  ⟨CI.load (tg 57) (mLoad1 (tg 57)), (some 58), (some (52, false)), 9, []⟩,
  ⟨CI.mem 3 (mCall 22 [(tg 54), (tg 58)]), (some 59), (some (52, false)), 10, []⟩,
  ⟨CI.pure (pMov (tg 1)), (some 60), (some (52, false)), 11, []⟩,
  ⟨CI.pure (pBin .eql (tg 59) (tg 60)), (some 61), (some (52, false)), 12, []⟩,
  ⟨CI.pure (pPick (tg 52) (cv (.bool true)) (tg 61)), (some 62), none, 13, []⟩]
@[simp] def o_h_Machine_Feed_8_ap := das_rule (c := o_h_Machine_Feed_8) rfl
def o_h_Machine_Feed_9 : List IS := [ip 63 (pMov (tg 0)),
  ip 64 (pNilck (tg 63)),
  ip 65 (pFaddr 12 (tg 64)),
  im0 3 (mStore 1 (tg 65) (cv (.bool true)))]
@[simp] def o_h_Machine_Feed_9_ap := ops_rule (c := o_h_Machine_Feed_9) rfl
def o_h_Machine_Feed_10 : List IS := [ip 4 (pMov (cv (.int .i64 0)))]
@[simp] def o_h_Machine_Feed_10_ap := ops_rule (c := o_h_Machine_Feed_10) rfl
def c_h_Machine_Feed_4 : SC := sSeq (sReg (seqI o_h_Machine_Feed_10)) sRet
@[simp] def c_h_Machine_Feed_4_ap := seq_rule (c := c_h_Machine_Feed_4) rfl
def c_h_Machine_Feed_5 : SC := sSeq (sReg (seqI o_h_Machine_Feed_9)) c_h_Machine_Feed_4
@[simp] def c_h_Machine_Feed_5_ap := seq_rule (c := c_h_Machine_Feed_5) rfl
def c_h_Machine_Feed_6 : SC := sCond (tg 62) c_h_Machine_Feed_5 sSkip
@[simp] def c_h_Machine_Feed_6_ap := cond_rule (c := c_h_Machine_Feed_6) rfl
def c_h_Machine_Feed_7 : SC := sSeq (sAny o_h_Machine_Feed_8) c_h_Machine_Feed_6
@[simp] def c_h_Machine_Feed_7_ap := seq_rule (c := c_h_Machine_Feed_7) rfl
def c_h_Machine_Feed_8 : SC := sSeq (sReg (seqI o_h_Machine_Feed_7)) c_h_Machine_Feed_7
@[simp] def c_h_Machine_Feed_8_ap := seq_rule (c := c_h_Machine_Feed_8) rfl
def c_h_Machine_Feed_9 : SC := sCond (tg 44) c_h_Machine_Feed_8 sSkip
@[simp] def c_h_Machine_Feed_9_ap := cond_rule (c := c_h_Machine_Feed_9) rfl
def c_h_Machine_Feed_10 : SC := sSeq (sReg (seqI o_h_Machine_Feed_6)) c_h_Machine_Feed_9
@[simp] def c_h_Machine_Feed_10_ap := seq_rule (c := c_h_Machine_Feed_10) rfl
def o_h_Machine_Feed_11 : List IS := [ip 67 (pMov (tg 0)),
  ip 68 (pNilck (tg 67)),
  ip 69 (pFaddr 4 (tg 68)),
  ip 70 (pFaddr 4 (tg 69)),
  il 71 (tg 70) (mLoad1 (tg 70)),
  ip 72 (pMov (tg 71)),
  gd 72 true (some 73) (ip 73 (pMov (tg 0))),
  gd 72 true (some 74) (ip 74 (pNilck (tg 73))),
  gd 72 true (some 75) (ip 75 (pFaddr 12 (tg 74))),
  gd 72 true (some 76) (il 76 (tg 75) (mLoad1 (tg 75))),
  ip 77 (pPick (tg 72) (tg 76) (cv (.bool false))),
  ip 66 (pMov (tg 77))]
@[simp] def o_h_Machine_Feed_11_ap := ops_rule (c := o_h_Machine_Feed_11) rfl
def o_h_Machine_Feed_12 : List IS := [ip 78 (pMov (tg 0)),
  ip 79 (pMov (tg 0)),
  ip 80 (pNilck (tg 79)),
  ip 81 (pFaddr 11 (tg 80)),
  il 82 (tg 81) (mLoad1 (tg 81)),
  ip 1 (pMov (tg 82)),
  ip 83 (pNilck (tg 78)),
  ip 84 (pFaddr 12 (tg 83)),
  im0 3 (mStore 1 (tg 84) (cv (.bool false)))]
@[simp] def o_h_Machine_Feed_12_ap := ops_rule (c := o_h_Machine_Feed_12) rfl
def o_h_Machine_Feed_13 : List DA := [⟨CI.pure (pMov (tg 0)), (some 85), none, 0, []⟩,
  ⟨CI.pure (pNilck (tg 85)), (some 86), none, 1, []⟩,
  ⟨CI.pure (pFaddr 3 (tg 86)), (some 87), none, 2, []⟩,
  ⟨CI.load (tg 87) (mLoad1 (tg 87)), (some 88), none, 3, []⟩,
  ⟨CI.pure (pFaddr 1 (tg 5)), (some 89), none, 4, []⟩,
  ⟨CI.load (tg 89) (mLoad1 (tg 89)), (some 90), none, 5, []⟩,
  ⟨CI.pure (pMov (tg 1)), (some 91), none, 6, []⟩,
  ⟨CI.pure (pIaddrS 1 (tg 88) (tg 90)), (some 92), none, 7, []⟩,
  ⟨CI.mem 3 (mStore 1 (tg 92) (tg 91)), none, none, 8, []⟩]
@[simp] def o_h_Machine_Feed_13_ap := das_rule (c := o_h_Machine_Feed_13) rfl
def c_h_Machine_Feed_11 : SC := sSeq (sReg (seqI o_h_Machine_Feed_12)) (sAny o_h_Machine_Feed_13)
@[simp] def c_h_Machine_Feed_11_ap := seq_rule (c := c_h_Machine_Feed_11) rfl
def o_h_Machine_Feed_14 : List IS := [ip 94 (pMov (tg 0)),
  ip 95 (pNilck (tg 94)),
  ip 96 (pFaddr 4 (tg 95)),
  ip 97 (pFaddr 0 (tg 96)),
  il 98 (tg 97) (mLoad1 (tg 97)),
  ip 99 (pBin .eql (tg 98) (cv (.int .i64 1))),
  ip 93 (pMov (tg 99))]
@[simp] def o_h_Machine_Feed_14_ap := ops_rule (c := o_h_Machine_Feed_14) rfl
def o_h_Machine_Feed_15 : List DA := [⟨CI.pure (pMov (tg 0)), (some 100), none, 0, []⟩,
  ⟨CI.pure (pNilck (tg 100)), (some 101), none, 1, []⟩,
  ⟨CI.pure (pFaddr 3 (tg 101)), (some 102), none, 2, []⟩,
  ⟨CI.load (tg 102) (mLoad1 (tg 102)), (some 103), none, 3, []⟩,
  ⟨CI.pure (pFaddr 1 (tg 5)), (some 104), none, 4, []⟩,
  ⟨CI.load (tg 104) (mLoad1 (tg 104)), (some 105), none, 5, []⟩,
  ⟨CI.pure (pMov (tg 1)), (some 106), none, 6, []⟩,
  ⟨CI.pure (pIaddrS 1 (tg 103) (tg 105)), (some 107), none, 7, []⟩,
  ⟨CI.mem 3 (mStore 1 (tg 107) (tg 106)), none, none, 8, []⟩]
@[simp] def o_h_Machine_Feed_15_ap := das_rule (c := o_h_Machine_Feed_15) rfl
def c_h_Machine_Feed_12 : SC := sCond (tg 93) (sAny o_h_Machine_Feed_15) sSkip
@[simp] def c_h_Machine_Feed_12_ap := cond_rule (c := c_h_Machine_Feed_12) rfl
def c_h_Machine_Feed_13 : SC := sSeq (sReg (seqI o_h_Machine_Feed_14)) c_h_Machine_Feed_12
@[simp] def c_h_Machine_Feed_13_ap := seq_rule (c := c_h_Machine_Feed_13) rfl
def c_h_Machine_Feed_14 : SC := sCond (tg 66) c_h_Machine_Feed_11 c_h_Machine_Feed_13
@[simp] def c_h_Machine_Feed_14_ap := cond_rule (c := c_h_Machine_Feed_14) rfl
def c_h_Machine_Feed_15 : SC := sSeq (sReg (seqI o_h_Machine_Feed_11)) c_h_Machine_Feed_14
@[simp] def c_h_Machine_Feed_15_ap := seq_rule (c := c_h_Machine_Feed_15) rfl
def c_h_Machine_Feed_16 : SC := sBlock 0 c_h_Machine_Feed_15
@[simp] def c_h_Machine_Feed_16_ap := block_rule (c := c_h_Machine_Feed_16) rfl
def o_h_Machine_Feed_16 : List IS := [ip 108 (pMov (tg 0)),
  ip 109 (pNilck (tg 108)),
  ip 110 (pFaddr 2 (tg 109)),
  il 111 (tg 110) (mLoad1 (tg 110)),
  ip 112 (pBin .add (tg 111) (cv (.int .i64 1))),
  ip 113 (pNilck (tg 108)),
  ip 114 (pFaddr 2 (tg 113)),
  im0 3 (mStore 1 (tg 114) (tg 112))]
@[simp] def o_h_Machine_Feed_16_ap := ops_rule (c := o_h_Machine_Feed_16) rfl
def o_h_Machine_Feed_17 : List IS := [ip 4 (pMov (cv (.int .i64 0)))]
@[simp] def o_h_Machine_Feed_17_ap := ops_rule (c := o_h_Machine_Feed_17) rfl
def c_h_Machine_Feed_17 : SC := sSeq (sReg (seqI o_h_Machine_Feed_17)) sRet
@[simp] def c_h_Machine_Feed_17_ap := seq_rule (c := c_h_Machine_Feed_17) rfl
def c_h_Machine_Feed_18 : SC := sSeq (sReg (seqI o_h_Machine_Feed_16)) c_h_Machine_Feed_17
@[simp] def c_h_Machine_Feed_18_ap := seq_rule (c := c_h_Machine_Feed_18) rfl
def c_h_Machine_Feed_19 : SC := sSeq c_h_Machine_Feed_16 c_h_Machine_Feed_18
@[simp] def c_h_Machine_Feed_19_ap := seq_rule (c := c_h_Machine_Feed_19) rfl
def c_h_Machine_Feed_20 : SC := sSeq c_h_Machine_Feed_10 c_h_Machine_Feed_19
@[simp] def c_h_Machine_Feed_20_ap := seq_rule (c := c_h_Machine_Feed_20) rfl
def c_h_Machine_Feed_21 : SC := sSeq (sReg (seqI o_h_Machine_Feed_5)) c_h_Machine_Feed_20
@[simp] def c_h_Machine_Feed_21_ap := seq_rule (c := c_h_Machine_Feed_21) rfl
def c_h_Machine_Feed_22 : SC := sSeq (sReg (seqI o_h_Machine_Feed_4)) c_h_Machine_Feed_21
@[simp] def c_h_Machine_Feed_22_ap := seq_rule (c := c_h_Machine_Feed_22) rfl
def c_h_Machine_Feed_23 : SC := sSeq c_h_Machine_Feed_3 c_h_Machine_Feed_22
@[simp] def c_h_Machine_Feed_23_ap := seq_rule (c := c_h_Machine_Feed_23) rfl
def c_h_Machine_Feed_24 : SC := sSeq (sReg (seqI o_h_Machine_Feed_1)) c_h_Machine_Feed_23
@[simp] def c_h_Machine_Feed_24_ap := seq_rule (c := c_h_Machine_Feed_24) rfl
def d_h_Machine_Feed : DFn := ⟨c_h_Machine_Feed_24, 115, [.t 4]⟩
theorem d_h_Machine_Feed_ok : fnOf Try.prog 14 = some d_h_Machine_Feed := by kernel_rfl
def o_h_Machine_act_1 : List IS := [im 1 2 (mAlloc [(.int .i64 0), (.int .i64 0), (.int .i64 0), (.int .i64 0), (.slice none 0 0), (.slice none 0 0), (.slice none 0 0), (.int .i64 0), (.int .i64 0), (.int .i64 0), (.int .i64 0)])]
@[simp] def o_h_Machine_act_1_ap := ops_rule (c := o_h_Machine_act_1) rfl
def o_h_Machine_act_2 : List DA := [⟨CI.pure (pMov (tg 0)), (some 3), none, 0, []⟩,
  ⟨CI.pure (pNilck (tg 3)), (some 4), none, 1, []⟩,
  ⟨CI.pure (pFaddr 0 (tg 4)), (some 5), none, 2, []⟩,
  ⟨CI.pure (pFaddr 1 (tg 5)), (some 6), none, 3, []⟩,
  ⟨CI.load (tg 6) (mLoad1 (tg 6)), (some 7), none, 4, []⟩,
  ⟨CI.pure (pMov (tg 0)), (some 8), none, 5, []⟩,
  ⟨CI.pure (pNilck (tg 8)), (some 9), none, 6, []⟩,
  ⟨CI.pure (pFaddr 2 (tg 9)), (some 10), none, 7, []⟩,
  ⟨CI.load (tg 10) (mLoad1 (tg 10)), (some 11), none, 8, []⟩,
  ⟨CI.pure (pIaddrS 11 (tg 7) (tg 11)), (some 12), none, 9, []⟩,
  ⟨CI.load (tg 12) (mLoadN 11 (tg 12)), (some 13), none, 10, []⟩,
  ⟨CI.mem 3 (mStore 11 (tg 2) (tg 13)), none, none, 11, []⟩]
@[simp] def o_h_Machine_act_2_ap := das_rule (c := o_h_Machine_act_2) rfl
def c_h_Machine_act_1 : SC := sSeq (sAny o_h_Machine_act_2) sRet
@[simp] def c_h_Machine_act_1_ap := seq_rule (c := c_h_Machine_act_1) rfl
def c_h_Machine_act_2 : SC := sSeq (sReg (seqI o_h_Machine_act_1)) c_h_Machine_act_1
@[simp] def c_h_Machine_act_2_ap := seq_rule (c := c_h_Machine_act_2) rfl
def d_h_Machine_act : DFn := ⟨c_h_Machine_act_2, 14, [.cell 2 11]⟩
theorem d_h_Machine_act_ok : fnOf Try.prog 16 = some d_h_Machine_act := by kernel_rfl
def o_h_own_1 : List IS := [im 1 1 (mBox (tg 0)),
  ip 2 (pMov (cv (.bool false)))]
@[simp] def o_h_own_1_ap := ops_rule (c := o_h_own_1) rfl
def o_h_own_2 : List IS := [ip 3 (pFaddr 0 (tg 1)),
  il 4 (tg 3) (mLoad1 (tg 3)),
  ip 5 (pBin .eql (tg 4) (cv (.int .i64 1))),
  ip 6 (pMov (tg 5)),
  gd 6 false (some 7) (ip 7 (pFaddr 0 (tg 1))),
  gd 6 false (some 8) (il 8 (tg 7) (mLoad1 (tg 7))),
  gd 6 false (some 9) (ip 9 (pBin .eql (tg 8) (cv (.int .i64 9)))),
  ip 10 (pPick (tg 6) (cv (.bool true)) (tg 9)),
  ip 11 (pMov (tg 10)),
  gd 11 false (some 12) (ip 12 (pFaddr 0 (tg 1))),
  gd 11 false (some 13) (il 13 (tg 12) (mLoad1 (tg 12))),
  gd 11 false (some 14) (ip 14 (pBin .eql (tg 13) (cv (.int .i64 10)))),
  ip 15 (pPick (tg 11) (cv (.bool true)) (tg 14)),
  ip 2 (pMov (tg 15))]
@[simp] def o_h_own_2_ap := ops_rule (c := o_h_own_2) rfl
def c_h_own_1 : SC := sSeq (sReg (seqI o_h_own_2)) sRet
@[simp] def c_h_own_1_ap := seq_rule (c := c_h_own_1) rfl
def c_h_own_2 : SC := sSeq (sReg (seqI o_h_own_1)) c_h_own_1
@[simp] def c_h_own_2_ap := seq_rule (c := c_h_own_2) rfl
def d_h_own : DFn := ⟨c_h_own_2, 16, [.t 2]⟩
theorem d_h_own_ok : fnOf Try.prog 17 = some d_h_own := by kernel_rfl
def o_h_works_1 : List IS := [im 1 0 (mAlloc [.nilFunc, .nilFunc, .nilFunc, .nilFunc, .nilFunc, .nilFunc, .nilFunc, .nilFunc, .nilFunc, .nilFunc, .nilFunc])]
@[simp] def o_h_works_1_ap := ops_rule (c := o_h_works_1) rfl
def o_h_works_2 : List IS := [ip 1 (pBuild [.nilFunc, .nilFunc, .nilFunc, .nilFunc, .nilFunc, .nilFunc, .nilFunc, .nilFunc, .nilFunc, .nilFunc, .nilFunc] [(1, 1, (cv (.func (.func 30) #[] #[]))), (2, 1, (cv (.func (.func 31) #[] #[]))), (3, 1, (cv (.func (.func 32) #[] #[]))), (4, 1, (cv (.func (.func 33) #[] #[]))), (5, 1, (cv (.func (.func 33) #[] #[]))), (6, 1, (cv (.func (.func 33) #[] #[]))), (7, 1, (cv (.func (.func 34) #[] #[]))), (8, 1, (cv (.func (.func 35) #[] #[]))), (9, 1, (cv (.func (.func 36) #[] #[]))), (10, 1, (cv (.func (.func 37) #[] #[])))]),
  im0 3 (mStore 11 (tg 0) (tg 1))]
@[simp] def o_h_works_2_ap := ops_rule (c := o_h_works_2) rfl
def c_h_works_1 : SC := sSeq (sReg (seqI o_h_works_2)) sRet
@[simp] def c_h_works_1_ap := seq_rule (c := c_h_works_1) rfl
def c_h_works_2 : SC := sSeq (sReg (seqI o_h_works_1)) c_h_works_1
@[simp] def c_h_works_2_ap := seq_rule (c := c_h_works_2) rfl
def d_h_works : DFn := ⟨c_h_works_2, 2, [.cell 0 11]⟩
theorem d_h_works_ok : fnOf Try.prog 18 = some d_h_works := by kernel_rfl
def o_h_event_1 : List IS := [im 1 4 (mBox (tg 1)),
  im 1 6 (mAlloc [(.int .i64 0), (.int .i64 0), (.int .i64 0), (.int .u64 0), (.int .i64 0)])]
@[simp] def o_h_event_1_ap := ops_rule (c := o_h_event_1) rfl
def o_h_event_2 : List IS := [ip 7 (pFaddr 0 (tg 4)),
  il 8 (tg 7) (mLoad1 (tg 7))]
@[simp] def o_h_event_2_ap := ops_rule (c := o_h_event_2) rfl
def o_h_event_3 : List IS := [ip 10 (pBin .eql (tg 8) (cv (.int .i64 1))),
  ip 9 (pMov (tg 10))]
@[simp] def o_h_event_3_ap := ops_rule (c := o_h_event_3) rfl
def o_h_event_4 : List IS := [ip 11 (pMov (tg 0)),
  ip 12 (pFaddr 1 (tg 4)),
  il 13 (tg 12) (mLoad1 (tg 12)),
  ip 14 (pMov (tg 2)),
  ip 15 (pFaddr 2 (tg 4)),
  il 16 (tg 15) (mLoad1 (tg 15)),
  ip 17 (pBuild [(.int .i64 0), (.int .i64 0), (.int .i64 0), (.int .u64 0), (.int .i64 0)] [(0, 1, (tg 11)), (1, 1, (cv (.int .i64 1))), (2, 1, (tg 13)), (3, 1, (tg 14)), (4, 1, (tg 16))]),
  im0 3 (mStore 5 (tg 6) (tg 17))]
@[simp] def o_h_event_4_ap := ops_rule (c := o_h_event_4) rfl
def c_h_event_1 : SC := sSeq (sReg (seqI o_h_event_4)) sRet
@[simp] def c_h_event_1_ap := seq_rule (c := c_h_event_1) rfl
def o_h_event_5 : List IS := [ip 19 (pBin .eql (tg 8) (cv (.int .i64 2))),
  ip 18 (pMov (tg 19))]
@[simp] def o_h_event_5_ap := ops_rule (c := o_h_event_5) rfl
def o_h_event_6 : List IS := [ip 20 (pMov (tg 0)),
  ip 21 (pFaddr 1 (tg 4)),
  il 22 (tg 21) (mLoad1 (tg 21)),
  ip 23 (pFaddr 3 (tg 4)),
  il 24 (tg 23) (mLoad1 (tg 23)),
  ip 25 (pFaddr 2 (tg 4)),
  il 26 (tg 25) (mLoad1 (tg 25)),
  ip 27 (pBuild [(.int .i64 0), (.int .i64 0), (.int .i64 0), (.int .u64 0), (.int .i64 0)] [(0, 1, (tg 20)), (1, 1, (cv (.int .i64 2))), (2, 1, (tg 22)), (3, 1, (tg 24)), (4, 1, (tg 26))]),
  im0 3 (mStore 5 (tg 6) (tg 27))]
@[simp] def o_h_event_6_ap := ops_rule (c := o_h_event_6) rfl
def c_h_event_2 : SC := sSeq (sReg (seqI o_h_event_6)) sRet
@[simp] def c_h_event_2_ap := seq_rule (c := c_h_event_2) rfl
def c_h_event_3 : SC := sCond (tg 18) c_h_event_2 sSkip
@[simp] def c_h_event_3_ap := cond_rule (c := c_h_event_3) rfl
def c_h_event_4 : SC := sSeq (sReg (seqI o_h_event_5)) c_h_event_3
@[simp] def c_h_event_4_ap := seq_rule (c := c_h_event_4) rfl
def c_h_event_5 : SC := sCond (tg 9) c_h_event_1 c_h_event_4
@[simp] def c_h_event_5_ap := cond_rule (c := c_h_event_5) rfl
def c_h_event_6 : SC := sSeq (sReg (seqI o_h_event_3)) c_h_event_5
@[simp] def c_h_event_6_ap := seq_rule (c := c_h_event_6) rfl
def c_h_event_7 : SC := sBlock 0 c_h_event_6
@[simp] def c_h_event_7_ap := block_rule (c := c_h_event_7) rfl
def c_h_event_8 : SC := sSeq (sReg (seqI o_h_event_2)) c_h_event_7
@[simp] def c_h_event_8_ap := seq_rule (c := c_h_event_8) rfl
def o_h_event_7 : List IS := [ip 28 (pMov (tg 0)),
  ip 29 (pFaddr 2 (tg 4)),
  il 30 (tg 29) (mLoad1 (tg 29)),
  ip 31 (pBuild [(.int .i64 0), (.int .i64 0), (.int .i64 0), (.int .u64 0), (.int .i64 0)] [(0, 1, (tg 28)), (1, 1, (cv (.int .i64 3))), (2, 1, (cv (.int .i64 (-1)))), (4, 1, (tg 30))]),
  im0 3 (mStore 5 (tg 6) (tg 31))]
@[simp] def o_h_event_7_ap := ops_rule (c := o_h_event_7) rfl
def c_h_event_9 : SC := sSeq (sReg (seqI o_h_event_7)) sRet
@[simp] def c_h_event_9_ap := seq_rule (c := c_h_event_9) rfl
def c_h_event_10 : SC := sSeq c_h_event_8 c_h_event_9
@[simp] def c_h_event_10_ap := seq_rule (c := c_h_event_10) rfl
def c_h_event_11 : SC := sSeq (sReg (seqI o_h_event_1)) c_h_event_10
@[simp] def c_h_event_11_ap := seq_rule (c := c_h_event_11) rfl
def d_h_event : DFn := ⟨c_h_event_11, 32, [.cell 6 5]⟩
theorem d_h_event_ok : fnOf Try.prog 19 = some d_h_event := by kernel_rfl
def o_k_Whole_1 : List IS := [im 1 1 (mBox (tg 0)),
  ip 2 (pMov (cv (.bool false)))]
@[simp] def o_k_Whole_1_ap := ops_rule (c := o_k_Whole_1) rfl
def o_k_Whole_2 : List IS := [ip 7 (pFaddr 0 (tg 1)),
  il 8 (tg 7) (mLoad1 (tg 7)),
  ip 9 (pBin .lss (tg 8) (cv (.int .i64 0))),
  ip 10 (pMov (tg 9)),
  gd 10 false (some 11) (ip 11 (pFaddr 0 (tg 1))),
  gd 10 false (some 12) (il 12 (tg 11) (mLoad1 (tg 11))),
  gd 10 false (some 13) (ip 13 (pBin .gtr (tg 12) (cv (.int .i64 4096)))),
  ip 14 (pPick (tg 10) (cv (.bool true)) (tg 13)),
  ip 15 (pMov (tg 14)),
  gd 15 false (some 16) (ip 16 (pFaddr 1 (tg 1))),
  gd 15 false (some 17) (il 17 (tg 16) (mLoad1 (tg 16))),
  gd 15 false (some 18) (ip 18 (pLen (tg 17))),
  gd 15 false (some 19) (ip 19 (pBin .gtr (tg 18) (cv (.int .i64 64)))),
  ip 20 (pPick (tg 15) (cv (.bool true)) (tg 19))]
@[simp] def o_k_Whole_2_ap := ops_rule (c := o_k_Whole_2) rfl
def o_k_Whole_3 : List IS := [ip 2 (pMov (cv (.bool false)))]
@[simp] def o_k_Whole_3_ap := ops_rule (c := o_k_Whole_3) rfl
def c_k_Whole_1 : SC := sSeq (sReg (seqI o_k_Whole_3)) sRet
@[simp] def c_k_Whole_1_ap := seq_rule (c := c_k_Whole_1) rfl
def c_k_Whole_2 : SC := sCond (tg 20) c_k_Whole_1 sSkip
@[simp] def c_k_Whole_2_ap := cond_rule (c := c_k_Whole_2) rfl
def c_k_Whole_3 : SC := sSeq (sReg (seqI o_k_Whole_2)) c_k_Whole_2
@[simp] def c_k_Whole_3_ap := seq_rule (c := c_k_Whole_3) rfl
def o_k_Whole_4 : List IS := [ip 21 (pFaddr 1 (tg 1)),
  il 22 (tg 21) (mLoad1 (tg 21)),
  ip 23 (pLen (tg 22)),
  ip 24 (pMov (cv (.int .i64 0)))]
@[simp] def o_k_Whole_4_ap := ops_rule (c := o_k_Whole_4) rfl
def o_k_Whole_5 : List IS := [ip 25 (pBin .lss (tg 24) (tg 23))]
@[simp] def o_k_Whole_5_ap := ops_rule (c := o_k_Whole_5) rfl
def c_k_Whole_4 : SC := sCond (tg 25) sSkip (sExit 0)
@[simp] def c_k_Whole_4_ap := cond_rule (c := c_k_Whole_4) rfl
def o_k_Whole_6 : List IS := [ip 26 (pIaddrS 2 (tg 22) (tg 24)),
  il 27 (tg 26) (mLoadN 2 (tg 26)),
  im 1 4 (mAlloc [(.int .i64 0), (.slice none 0 0)]),
  im0 3 (mStore 2 (tg 4) (tg 27))]
@[simp] def o_k_Whole_6_ap := ops_rule (c := o_k_Whole_6) rfl
def o_k_Whole_7 : List IS := [ip 28 (pFaddr 0 (tg 4)),
  il 29 (tg 28) (mLoad1 (tg 28)),
  ip 30 (pBin .lss (tg 29) (cv (.int .i64 0))),
  ip 31 (pMov (tg 30)),
  gd 31 false (some 32) (ip 32 (pFaddr 0 (tg 4))),
  gd 31 false (some 33) (il 33 (tg 32) (mLoad1 (tg 32))),
  gd 31 false (some 34) (ip 34 (pBin .gtr (tg 33) (cv (.int .i64 24)))),
  ip 35 (pPick (tg 31) (cv (.bool true)) (tg 34)),
  ip 36 (pMov (tg 35)),
  gd 36 false (some 37) (ip 37 (pFaddr 1 (tg 4))),
  gd 36 false (some 38) (il 38 (tg 37) (mLoad1 (tg 37))),
  gd 36 false (some 39) (ip 39 (pLen (tg 38))),
  gd 36 false (some 40) (ip 40 (pBin .gtr (tg 39) (cv (.int .i64 65536)))),
  ip 41 (pPick (tg 36) (cv (.bool true)) (tg 40))]
@[simp] def o_k_Whole_7_ap := ops_rule (c := o_k_Whole_7) rfl
def o_k_Whole_8 : List IS := [ip 2 (pMov (cv (.bool false)))]
@[simp] def o_k_Whole_8_ap := ops_rule (c := o_k_Whole_8) rfl
def c_k_Whole_5 : SC := sSeq (sReg (seqI o_k_Whole_8)) sRet
@[simp] def c_k_Whole_5_ap := seq_rule (c := c_k_Whole_5) rfl
def c_k_Whole_6 : SC := sCond (tg 41) c_k_Whole_5 sSkip
@[simp] def c_k_Whole_6_ap := cond_rule (c := c_k_Whole_6) rfl
def c_k_Whole_7 : SC := sSeq (sReg (seqI o_k_Whole_7)) c_k_Whole_6
@[simp] def c_k_Whole_7_ap := seq_rule (c := c_k_Whole_7) rfl
def o_k_Whole_9 : List IS := [ip 42 (pFaddr 1 (tg 4)),
  il 43 (tg 42) (mLoad1 (tg 42)),
  ip 44 (pLen (tg 43)),
  ip 45 (pMov (cv (.int .i64 0)))]
@[simp] def o_k_Whole_9_ap := ops_rule (c := o_k_Whole_9) rfl
def o_k_Whole_10 : List IS := [ip 46 (pBin .lss (tg 45) (tg 44))]
@[simp] def o_k_Whole_10_ap := ops_rule (c := o_k_Whole_10) rfl
def c_k_Whole_8 : SC := sCond (tg 46) sSkip (sExit 2)
@[simp] def c_k_Whole_8_ap := cond_rule (c := c_k_Whole_8) rfl
def o_k_Whole_11 : List IS := [ip 47 (pIaddrS 11 (tg 43) (tg 45)),
  il 48 (tg 47) (mLoadN 11 (tg 47)),
  im 1 6 (mAlloc [(.int .i64 0), (.int .i64 0), (.int .i64 0), (.int .i64 0), (.slice none 0 0), (.slice none 0 0), (.slice none 0 0), (.int .i64 0), (.int .i64 0), (.int .i64 0), (.int .i64 0)]),
  im0 3 (mStore 11 (tg 6) (tg 48))]
@[simp] def o_k_Whole_11_ap := ops_rule (c := o_k_Whole_11) rfl
def o_k_Whole_12 : List IS := [il 49 (tg 6) (mLoadN 11 (tg 6)),
  il 50 (tg 1) (mLoadN 2 (tg 1)),
  il 51 (tg 4) (mLoadN 2 (tg 4)),
  im 3 52 (mCall 40 [(tg 49), (tg 50), (tg 51)]),
  ip 53 (pUn .not (tg 52))]
@[simp] def o_k_Whole_12_ap := ops_rule (c := o_k_Whole_12) rfl
def o_k_Whole_13 : List IS := [ip 2 (pMov (cv (.bool false)))]
@[simp] def o_k_Whole_13_ap := ops_rule (c := o_k_Whole_13) rfl
def c_k_Whole_9 : SC := sSeq (sReg (seqI o_k_Whole_13)) sRet
@[simp] def c_k_Whole_9_ap := seq_rule (c := c_k_Whole_9) rfl
def c_k_Whole_10 : SC := sCond (tg 53) c_k_Whole_9 sSkip
@[simp] def c_k_Whole_10_ap := cond_rule (c := c_k_Whole_10) rfl
def c_k_Whole_11 : SC := sSeq (sReg (seqI o_k_Whole_12)) c_k_Whole_10
@[simp] def c_k_Whole_11_ap := seq_rule (c := c_k_Whole_11) rfl
def c_k_Whole_12 : SC := sSeq (sReg (seqI o_k_Whole_11)) c_k_Whole_11
@[simp] def c_k_Whole_12_ap := seq_rule (c := c_k_Whole_12) rfl
def c_k_Whole_13 : SC := sBlock 3 c_k_Whole_12
@[simp] def c_k_Whole_13_ap := block_rule (c := c_k_Whole_13) rfl
def o_k_Whole_14 : List IS := [ip 54 (pBin .add (tg 45) (cv (.int .i64 1))),
  ip 45 (pMov (tg 54))]
@[simp] def o_k_Whole_14_ap := ops_rule (c := o_k_Whole_14) rfl
def c_k_Whole_14 : SC := sSeq c_k_Whole_13 (sReg (seqI o_k_Whole_14))
@[simp] def c_k_Whole_14_ap := seq_rule (c := c_k_Whole_14) rfl
def c_k_Whole_15 : SC := sSeq c_k_Whole_8 c_k_Whole_14
@[simp] def c_k_Whole_15_ap := seq_rule (c := c_k_Whole_15) rfl
def c_k_Whole_16 : SC := sSeq (sReg (seqI o_k_Whole_10)) c_k_Whole_15
@[simp] def c_k_Whole_16_ap := seq_rule (c := c_k_Whole_16) rfl
def c_k_Whole_17 : SC := sLoop c_k_Whole_16
def c_k_Whole_18 : SC := sBlock 2 c_k_Whole_17
@[simp] def c_k_Whole_18_ap := block_rule (c := c_k_Whole_18) rfl
def c_k_Whole_19 : SC := sSeq (sReg (seqI o_k_Whole_9)) c_k_Whole_18
@[simp] def c_k_Whole_19_ap := seq_rule (c := c_k_Whole_19) rfl
def c_k_Whole_20 : SC := sSeq c_k_Whole_7 c_k_Whole_19
@[simp] def c_k_Whole_20_ap := seq_rule (c := c_k_Whole_20) rfl
def c_k_Whole_21 : SC := sSeq (sReg (seqI o_k_Whole_6)) c_k_Whole_20
@[simp] def c_k_Whole_21_ap := seq_rule (c := c_k_Whole_21) rfl
def c_k_Whole_22 : SC := sBlock 1 c_k_Whole_21
@[simp] def c_k_Whole_22_ap := block_rule (c := c_k_Whole_22) rfl
def o_k_Whole_15 : List IS := [ip 55 (pBin .add (tg 24) (cv (.int .i64 1))),
  ip 24 (pMov (tg 55))]
@[simp] def o_k_Whole_15_ap := ops_rule (c := o_k_Whole_15) rfl
def c_k_Whole_23 : SC := sSeq c_k_Whole_22 (sReg (seqI o_k_Whole_15))
@[simp] def c_k_Whole_23_ap := seq_rule (c := c_k_Whole_23) rfl
def c_k_Whole_24 : SC := sSeq c_k_Whole_4 c_k_Whole_23
@[simp] def c_k_Whole_24_ap := seq_rule (c := c_k_Whole_24) rfl
def c_k_Whole_25 : SC := sSeq (sReg (seqI o_k_Whole_5)) c_k_Whole_24
@[simp] def c_k_Whole_25_ap := seq_rule (c := c_k_Whole_25) rfl
def c_k_Whole_26 : SC := sLoop c_k_Whole_25
def c_k_Whole_27 : SC := sBlock 0 c_k_Whole_26
@[simp] def c_k_Whole_27_ap := block_rule (c := c_k_Whole_27) rfl
def c_k_Whole_28 : SC := sSeq (sReg (seqI o_k_Whole_4)) c_k_Whole_27
@[simp] def c_k_Whole_28_ap := seq_rule (c := c_k_Whole_28) rfl
def o_k_Whole_16 : List IS := [ip 2 (pMov (cv (.bool true)))]
@[simp] def o_k_Whole_16_ap := ops_rule (c := o_k_Whole_16) rfl
def c_k_Whole_29 : SC := sSeq (sReg (seqI o_k_Whole_16)) sRet
@[simp] def c_k_Whole_29_ap := seq_rule (c := c_k_Whole_29) rfl
def c_k_Whole_30 : SC := sSeq c_k_Whole_28 c_k_Whole_29
@[simp] def c_k_Whole_30_ap := seq_rule (c := c_k_Whole_30) rfl
def c_k_Whole_31 : SC := sSeq c_k_Whole_3 c_k_Whole_30
@[simp] def c_k_Whole_31_ap := seq_rule (c := c_k_Whole_31) rfl
def c_k_Whole_32 : SC := sSeq (sReg (seqI o_k_Whole_1)) c_k_Whole_31
@[simp] def c_k_Whole_32_ap := seq_rule (c := c_k_Whole_32) rfl
def d_k_Whole : DFn := ⟨c_k_Whole_32, 56, [.t 2]⟩
theorem d_k_Whole_ok : fnOf Try.prog 21 = some d_k_Whole := by kernel_rfl
def o_h_value_1 : List IS := [ip 4 (pMov (cv (.int .u64 0)))]
@[simp] def o_h_value_1_ap := ops_rule (c := o_h_value_1) rfl
def o_h_value_2 : List IS := [ip 8 (pMov (tg 0)),
  ip 9 (pLen (tg 8)),
  im 1 10 (mMkslice 1 8 [(.int .u64 0)] (tg 9) (tg 9)),
  ip 5 (pMov (tg 10))]
@[simp] def o_h_value_2_ap := ops_rule (c := o_h_value_2) rfl
def o_h_value_3 : List IS := [ip 11 (pMov (tg 0)),
  ip 12 (pLen (tg 11)),
  ip 13 (pMov (cv (.int .i64 0)))]
@[simp] def o_h_value_3_ap := ops_rule (c := o_h_value_3) rfl
def o_h_value_4 : List IS := [ip 14 (pBin .lss (tg 13) (tg 12))]
@[simp] def o_h_value_4_ap := ops_rule (c := o_h_value_4) rfl
def c_h_value_1 : SC := sCond (tg 14) sSkip (sExit 0)
@[simp] def c_h_value_1_ap := cond_rule (c := c_h_value_1) rfl
def o_h_value_5 : List IS := [ip 15 (pMov (tg 13)),
  ip 16 (pIaddrS 4 (tg 11) (tg 13)),
  il 17 (tg 16) (mLoadN 4 (tg 16)),
  im 1 7 (mAlloc [(.int .i64 0), (.int .u64 0), (.int .i64 0), (.int .i64 0)]),
  ip 6 (pMov (tg 15)),
  im0 3 (mStore 4 (tg 7) (tg 17))]
@[simp] def o_h_value_5_ap := ops_rule (c := o_h_value_5) rfl
def o_h_value_6 : List IS := [ip 35 (pFaddr 0 (tg 7)),
  il 36 (tg 35) (mLoad1 (tg 35)),
  ip 37 (pBin .eql (tg 36) (cv (.int .i64 1))),
  ip 34 (pMov (tg 37))]
@[simp] def o_h_value_6_ap := ops_rule (c := o_h_value_6) rfl
def o_h_value_7 : List IS := [ip 38 (pMov (tg 5)),
  ip 39 (pMov (tg 6)),
  ip 40 (pFaddr 1 (tg 7)),
  il 41 (tg 40) (mLoad1 (tg 40)),
  ip 42 (pIaddrS 1 (tg 38) (tg 39)),
  im0 3 (mStore 1 (tg 42) (tg 41))]
@[simp] def o_h_value_7_ap := ops_rule (c := o_h_value_7) rfl
def o_h_value_8 : List IS := [ip 44 (pFaddr 0 (tg 7)),
  il 45 (tg 44) (mLoad1 (tg 44)),
  ip 46 (pBin .eql (tg 45) (cv (.int .i64 2))),
  ip 43 (pMov (tg 46))]
@[simp] def o_h_value_8_ap := ops_rule (c := o_h_value_8) rfl
def o_h_value_9 : List IS := [ip 47 (pMov (tg 5)),
  ip 48 (pMov (tg 6)),
  ip 49 (pMov (tg 1)),
  ip 50 (pFaddr 1 (tg 7)),
  il 51 (tg 50) (mLoad1 (tg 50)),
  ip 52 (pIaddrS 1 (tg 49) (tg 51)),
  il 53 (tg 52) (mLoad1 (tg 52)),
  ip 54 (pIaddrS 1 (tg 47) (tg 48)),
  im0 3 (mStore 1 (tg 54) (tg 53))]
@[simp] def o_h_value_9_ap := ops_rule (c := o_h_value_9) rfl
def o_h_value_10 : List IS := [ip 56 (pFaddr 0 (tg 7)),
  il 57 (tg 56) (mLoad1 (tg 56)),
  ip 58 (pBin .leq (tg 57) (cv (.int .i64 5))),
  ip 55 (pMov (tg 58))]
@[simp] def o_h_value_10_ap := ops_rule (c := o_h_value_10) rfl
def o_h_value_11 : List DA := [⟨CI.pure (pMov (tg 5)), (some 59), none, 0, []⟩,
  ⟨CI.pure (pMov (tg 6)), (some 60), none, 1, []⟩,
  ⟨CI.pure (pFaddr 0 (tg 7)), (some 61), none, 2, []⟩,
  ⟨CI.load (tg 61) (mLoad1 (tg 61)), (some 62), none, 3, []⟩,
  ⟨CI.pure (pMov (tg 5)), (some 63), none, 4, []⟩,
  ⟨CI.pure (pFaddr 2 (tg 7)), (some 64), none, 5, []⟩,
  ⟨CI.load (tg 64) (mLoad1 (tg 64)), (some 65), none, 6, []⟩,
  ⟨CI.pure (pIaddrS 1 (tg 63) (tg 65)), (some 66), none, 7, []⟩,
  ⟨CI.load (tg 66) (mLoad1 (tg 66)), (some 67), none, 8, []⟩,
  ⟨CI.mem 3 (mCall 41 [(tg 62), (tg 67)]), (some 68), none, 9, []⟩,
  ⟨CI.pure (pIaddrS 1 (tg 59) (tg 60)), (some 69), none, 10, []⟩,
  ⟨CI.mem 3 (mStore 1 (tg 69) (tg 68)), none, none, 11, []⟩]
@[simp] def o_h_value_11_ap := das_rule (c := o_h_value_11) rfl
def o_h_value_12 : List DA := [⟨CI.pure (pMov (tg 5)), (some 18), none, 0, []⟩,
  ⟨CI.pure (pMov (tg 6)), (some 19), none, 1, []⟩,
  ⟨CI.pure (pFaddr 0 (tg 7)), (some 20), none, 2, []⟩,
  ⟨CI.load (tg 20) (mLoad1 (tg 20)), (some 21), none, 3, []⟩,
  ⟨CI.pure (pMov (tg 5)), (some 22), none, 4, []⟩,
  ⟨CI.pure (pFaddr 2 (tg 7)), (some 23), none, 5, []⟩,
  ⟨CI.load (tg 23) (mLoad1 (tg 23)), (some 24), none, 6, []⟩,
  ⟨CI.pure (pIaddrS 1 (tg 22) (tg 24)), (some 25), none, 7, []⟩,
  ⟨CI.load (tg 25) (mLoad1 (tg 25)), (some 26), none, 8, []⟩,
  ⟨CI.pure (pMov (tg 5)), (some 27), none, 9, []⟩,
  ⟨CI.pure (pFaddr 3 (tg 7)), (some 28), none, 10, []⟩,
  ⟨CI.load (tg 28) (mLoad1 (tg 28)), (some 29), none, 11, []⟩,
  ⟨CI.pure (pIaddrS 1 (tg 27) (tg 29)), (some 30), none, 12, []⟩,
  ⟨CI.load (tg 30) (mLoad1 (tg 30)), (some 31), none, 13, []⟩,
  ⟨CI.mem 3 (mCall 42 [(tg 21), (tg 26), (tg 31)]), (some 32), none, 14, []⟩,
  ⟨CI.pure (pIaddrS 1 (tg 18) (tg 19)), (some 33), none, 15, []⟩,
  ⟨CI.mem 3 (mStore 1 (tg 33) (tg 32)), none, none, 16, []⟩]
@[simp] def o_h_value_12_ap := das_rule (c := o_h_value_12) rfl
def c_h_value_2 : SC := sCond (tg 55) (sAny o_h_value_11) (sAny o_h_value_12)
@[simp] def c_h_value_2_ap := cond_rule (c := c_h_value_2) rfl
def c_h_value_3 : SC := sSeq (sReg (seqI o_h_value_10)) c_h_value_2
@[simp] def c_h_value_3_ap := seq_rule (c := c_h_value_3) rfl
def c_h_value_4 : SC := sCond (tg 43) (sReg (seqI o_h_value_9)) c_h_value_3
@[simp] def c_h_value_4_ap := cond_rule (c := c_h_value_4) rfl
def c_h_value_5 : SC := sSeq (sReg (seqI o_h_value_8)) c_h_value_4
@[simp] def c_h_value_5_ap := seq_rule (c := c_h_value_5) rfl
def c_h_value_6 : SC := sCond (tg 34) (sReg (seqI o_h_value_7)) c_h_value_5
@[simp] def c_h_value_6_ap := cond_rule (c := c_h_value_6) rfl
def c_h_value_7 : SC := sSeq (sReg (seqI o_h_value_6)) c_h_value_6
@[simp] def c_h_value_7_ap := seq_rule (c := c_h_value_7) rfl
def c_h_value_8 : SC := sBlock 2 c_h_value_7
@[simp] def c_h_value_8_ap := block_rule (c := c_h_value_8) rfl
def c_h_value_9 : SC := sSeq (sReg (seqI o_h_value_5)) c_h_value_8
@[simp] def c_h_value_9_ap := seq_rule (c := c_h_value_9) rfl
def c_h_value_10 : SC := sBlock 1 c_h_value_9
@[simp] def c_h_value_10_ap := block_rule (c := c_h_value_10) rfl
def o_h_value_13 : List IS := [ip 70 (pBin .add (tg 13) (cv (.int .i64 1))),
  ip 13 (pMov (tg 70))]
@[simp] def o_h_value_13_ap := ops_rule (c := o_h_value_13) rfl
def c_h_value_11 : SC := sSeq c_h_value_10 (sReg (seqI o_h_value_13))
@[simp] def c_h_value_11_ap := seq_rule (c := c_h_value_11) rfl
def c_h_value_12 : SC := sSeq c_h_value_1 c_h_value_11
@[simp] def c_h_value_12_ap := seq_rule (c := c_h_value_12) rfl
def c_h_value_13 : SC := sSeq (sReg (seqI o_h_value_4)) c_h_value_12
@[simp] def c_h_value_13_ap := seq_rule (c := c_h_value_13) rfl
def c_h_value_14 : SC := sLoop c_h_value_13
def c_h_value_15 : SC := sBlock 0 c_h_value_14
@[simp] def c_h_value_15_ap := block_rule (c := c_h_value_15) rfl
def c_h_value_16 : SC := sSeq (sReg (seqI o_h_value_3)) c_h_value_15
@[simp] def c_h_value_16_ap := seq_rule (c := c_h_value_16) rfl
def o_h_value_14 : List IS := [ip 71 (pMov (tg 5)),
  ip 72 (pMov (tg 5)),
  ip 73 (pLen (tg 72)),
  ip 74 (pBin .sub (tg 73) (cv (.int .i64 1))),
  ip 75 (pIaddrS 1 (tg 71) (tg 74)),
  il 76 (tg 75) (mLoad1 (tg 75)),
  ip 4 (pMov (tg 76))]
@[simp] def o_h_value_14_ap := ops_rule (c := o_h_value_14) rfl
def c_h_value_17 : SC := sSeq (sReg (seqI o_h_value_14)) sRet
@[simp] def c_h_value_17_ap := seq_rule (c := c_h_value_17) rfl
def c_h_value_18 : SC := sSeq c_h_value_16 c_h_value_17
@[simp] def c_h_value_18_ap := seq_rule (c := c_h_value_18) rfl
def c_h_value_19 : SC := sSeq (sReg (seqI o_h_value_2)) c_h_value_18
@[simp] def c_h_value_19_ap := seq_rule (c := c_h_value_19) rfl
def c_h_value_20 : SC := sSeq (sReg (seqI o_h_value_1)) c_h_value_19
@[simp] def c_h_value_20_ap := seq_rule (c := c_h_value_20) rfl
def d_h_value : DFn := ⟨c_h_value_20, 77, [.t 4]⟩
theorem d_h_value_ok : fnOf Try.prog 22 = some d_h_value := by kernel_rfl
def o_q_Expression_1 : List IS := [ip 4 (pMov (cv (.bool false)))]
@[simp] def o_q_Expression_1_ap := ops_rule (c := o_q_Expression_1) rfl
def o_q_Expression_2 : List IS := [ip 9 (pMov (tg 0)),
  ip 10 (pLen (tg 9)),
  ip 11 (pBin .eql (tg 10) (cv (.int .i64 0))),
  ip 12 (pMov (tg 11)),
  gd 12 false (some 13) (ip 13 (pMov (tg 0))),
  gd 12 false (some 14) (ip 14 (pLen (tg 13))),
  gd 12 false (some 15) (ip 15 (pBin .gtr (tg 14) (cv (.int .i64 65536)))),
  ip 16 (pPick (tg 12) (cv (.bool true)) (tg 15))]
@[simp] def o_q_Expression_2_ap := ops_rule (c := o_q_Expression_2) rfl
def o_q_Expression_3 : List IS := [ip 4 (pMov (cv (.bool false)))]
@[simp] def o_q_Expression_3_ap := ops_rule (c := o_q_Expression_3) rfl
def c_q_Expression_1 : SC := sSeq (sReg (seqI o_q_Expression_3)) sRet
@[simp] def c_q_Expression_1_ap := seq_rule (c := c_q_Expression_1) rfl
def c_q_Expression_2 : SC := sCond (tg 16) c_q_Expression_1 sSkip
@[simp] def c_q_Expression_2_ap := cond_rule (c := c_q_Expression_2) rfl
def c_q_Expression_3 : SC := sSeq (sReg (seqI o_q_Expression_2)) c_q_Expression_2
@[simp] def c_q_Expression_3_ap := seq_rule (c := c_q_Expression_3) rfl
def o_q_Expression_4 : List IS := [ip 17 (pMov (tg 0)),
  ip 18 (pLen (tg 17)),
  im 1 19 (mMkslice 1 1 [(.bool false)] (tg 18) (tg 18)),
  ip 5 (pMov (tg 19))]
@[simp] def o_q_Expression_4_ap := ops_rule (c := o_q_Expression_4) rfl
def o_q_Expression_5 : List IS := [ip 6 (pMov (cv (.int .i64 0)))]
@[simp] def o_q_Expression_5_ap := ops_rule (c := o_q_Expression_5) rfl
def o_q_Expression_6 : List IS := [ip 20 (pMov (tg 6)),
  ip 21 (pMov (tg 0)),
  ip 22 (pLen (tg 21)),
  ip 23 (pBin .lss (tg 20) (tg 22))]
@[simp] def o_q_Expression_6_ap := ops_rule (c := o_q_Expression_6) rfl
def c_q_Expression_4 : SC := sCond (tg 23) sSkip (sExit 0)
@[simp] def c_q_Expression_4_ap := cond_rule (c := c_q_Expression_4) rfl
def c_q_Expression_5 : SC := sSeq (sReg (seqI o_q_Expression_6)) c_q_Expression_4
@[simp] def c_q_Expression_5_ap := seq_rule (c := c_q_Expression_5) rfl
def o_q_Expression_7 : List IS := [ip 26 (pMov (tg 0)),
  ip 27 (pMov (tg 6)),
  ip 28 (pIaddrS 4 (tg 26) (tg 27)),
  il 29 (tg 28) (mLoadN 4 (tg 28)),
  im 1 7 (mAlloc [(.int .i64 0), (.int .u64 0), (.int .i64 0), (.int .i64 0)]),
  im0 3 (mStore 4 (tg 7) (tg 29))]
@[simp] def o_q_Expression_7_ap := ops_rule (c := o_q_Expression_7) rfl
def o_q_Expression_8 : List IS := [ip 30 (pFaddr 0 (tg 7)),
  il 31 (tg 30) (mLoad1 (tg 30)),
  ip 32 (pBin .eql (tg 31) (cv (.int .i64 1))),
  ip 33 (pMov (tg 32)),
  gd 33 false (some 34) (ip 34 (pFaddr 0 (tg 7))),
  gd 33 false (some 35) (il 35 (tg 34) (mLoad1 (tg 34))),
  gd 33 false (some 36) (ip 36 (pBin .eql (tg 35) (cv (.int .i64 2)))),
  ip 37 (pPick (tg 33) (cv (.bool true)) (tg 36))]
@[simp] def o_q_Expression_8_ap := ops_rule (c := o_q_Expression_8) rfl
def o_q_Expression_9 : List IS := [ip 38 (pFaddr 2 (tg 7)),
  il 39 (tg 38) (mLoad1 (tg 38)),
  ip 40 (pBin .neq (tg 39) (cv (.int .i64 0))),
  ip 41 (pMov (tg 40)),
  gd 41 false (some 42) (ip 42 (pFaddr 3 (tg 7))),
  gd 41 false (some 43) (il 43 (tg 42) (mLoad1 (tg 42))),
  gd 41 false (some 44) (ip 44 (pBin .neq (tg 43) (cv (.int .i64 0)))),
  ip 45 (pPick (tg 41) (cv (.bool true)) (tg 44)),
  ip 46 (pMov (tg 45)),
  gd 46 false (some 47) (ip 47 (pFaddr 0 (tg 7))),
  gd 46 false (some 48) (il 48 (tg 47) (mLoad1 (tg 47))),
  gd 46 false (some 49) (ip 49 (pBin .eql (tg 48) (cv (.int .i64 2)))),
  gd 46 false (some 50) (ip 50 (pMov (tg 49))),
  gd 50 true (some 51) (ip 51 (pFaddr 1 (tg 7))),
  gd 50 true (some 52) (il 52 (tg 51) (mLoad1 (tg 51))),
  gd 50 true (some 53) (ip 53 (pMov (tg 1))),
  gd 50 true (some 54) (ip 54 (pConvI .u64 (tg 53))),
  gd 50 true (some 55) (ip 55 (pBin .geq (tg 52) (tg 54))),
  gd 46 false (some 56) (ip 56 (pPick (tg 50) (tg 55) (cv (.bool false)))),
  ip 57 (pPick (tg 46) (cv (.bool true)) (tg 56))]
@[simp] def o_q_Expression_9_ap := ops_rule (c := o_q_Expression_9) rfl
def o_q_Expression_10 : List IS := [ip 4 (pMov (cv (.bool false)))]
@[simp] def o_q_Expression_10_ap := ops_rule (c := o_q_Expression_10) rfl
def c_q_Expression_6 : SC := sSeq (sReg (seqI o_q_Expression_10)) sRet
@[simp] def c_q_Expression_6_ap := seq_rule (c := c_q_Expression_6) rfl
def c_q_Expression_7 : SC := sCond (tg 57) c_q_Expression_6 sSkip
@[simp] def c_q_Expression_7_ap := cond_rule (c := c_q_Expression_7) rfl
def c_q_Expression_8 : SC := sSeq (sReg (seqI o_q_Expression_9)) c_q_Expression_7
@[simp] def c_q_Expression_8_ap := seq_rule (c := c_q_Expression_8) rfl
def c_q_Expression_9 : SC := sSeq c_q_Expression_8 (sExit 1)
@[simp] def c_q_Expression_9_ap := seq_rule (c := c_q_Expression_9) rfl
def c_q_Expression_10 : SC := sCond (tg 37) c_q_Expression_9 sSkip
@[simp] def c_q_Expression_10_ap := cond_rule (c := c_q_Expression_10) rfl
def c_q_Expression_11 : SC := sSeq (sReg (seqI o_q_Expression_8)) c_q_Expression_10
@[simp] def c_q_Expression_11_ap := seq_rule (c := c_q_Expression_11) rfl
def o_q_Expression_11 : List IS := [ip 58 (pFaddr 0 (tg 7)),
  il 59 (tg 58) (mLoad1 (tg 58)),
  ip 60 (pBin .lss (tg 59) (cv (.int .i64 1))),
  ip 61 (pMov (tg 60)),
  gd 61 false (some 62) (ip 62 (pFaddr 0 (tg 7))),
  gd 61 false (some 63) (il 63 (tg 62) (mLoad1 (tg 62))),
  gd 61 false (some 64) (ip 64 (pBin .gtr (tg 63) (cv (.int .i64 19)))),
  ip 65 (pPick (tg 61) (cv (.bool true)) (tg 64)),
  ip 66 (pMov (tg 65)),
  gd 66 false (some 67) (ip 67 (pFaddr 1 (tg 7))),
  gd 66 false (some 68) (il 68 (tg 67) (mLoad1 (tg 67))),
  gd 66 false (some 69) (ip 69 (pBin .neq (tg 68) (cv (.int .u64 0)))),
  ip 70 (pPick (tg 66) (cv (.bool true)) (tg 69)),
  ip 71 (pMov (tg 70)),
  gd 71 false (some 72) (ip 72 (pFaddr 2 (tg 7))),
  gd 71 false (some 73) (il 73 (tg 72) (mLoad1 (tg 72))),
  gd 71 false (some 74) (ip 74 (pBin .lss (tg 73) (cv (.int .i64 0)))),
  ip 75 (pPick (tg 71) (cv (.bool true)) (tg 74)),
  ip 76 (pMov (tg 75)),
  gd 76 false (some 77) (ip 77 (pFaddr 2 (tg 7))),
  gd 76 false (some 78) (il 78 (tg 77) (mLoad1 (tg 77))),
  gd 76 false (some 79) (ip 79 (pMov (tg 6))),
  gd 76 false (some 80) (ip 80 (pBin .geq (tg 78) (tg 79))),
  ip 81 (pPick (tg 76) (cv (.bool true)) (tg 80)),
  ip 82 (pMov (tg 81)),
  gd 82 false (some 83) (ip 83 (pMov (tg 5))),
  gd 82 false (some 84) (ip 84 (pFaddr 2 (tg 7))),
  gd 82 false (some 85) (il 85 (tg 84) (mLoad1 (tg 84))),
  gd 82 false (some 86) (ip 86 (pIaddrS 1 (tg 83) (tg 85))),
  gd 82 false (some 87) (il 87 (tg 86) (mLoad1 (tg 86))),
  ip 88 (pPick (tg 82) (cv (.bool true)) (tg 87))]
@[simp] def o_q_Expression_11_ap := ops_rule (c := o_q_Expression_11) rfl
def o_q_Expression_12 : List IS := [ip 4 (pMov (cv (.bool false)))]
@[simp] def o_q_Expression_12_ap := ops_rule (c := o_q_Expression_12) rfl
def c_q_Expression_12 : SC := sSeq (sReg (seqI o_q_Expression_12)) sRet
@[simp] def c_q_Expression_12_ap := seq_rule (c := c_q_Expression_12) rfl
def c_q_Expression_13 : SC := sCond (tg 88) c_q_Expression_12 sSkip
@[simp] def c_q_Expression_13_ap := cond_rule (c := c_q_Expression_13) rfl
def c_q_Expression_14 : SC := sSeq (sReg (seqI o_q_Expression_11)) c_q_Expression_13
@[simp] def c_q_Expression_14_ap := seq_rule (c := c_q_Expression_14) rfl
def o_q_Expression_13 : List IS := [ip 89 (pMov (tg 5)),
  ip 90 (pFaddr 2 (tg 7)),
  il 91 (tg 90) (mLoad1 (tg 90)),
  ip 92 (pIaddrS 1 (tg 89) (tg 91)),
  im0 3 (mStore 1 (tg 92) (cv (.bool true)))]
@[simp] def o_q_Expression_13_ap := ops_rule (c := o_q_Expression_13) rfl
def o_q_Expression_14 : List IS := [ip 93 (pFaddr 0 (tg 7)),
  il 94 (tg 93) (mLoad1 (tg 93)),
  ip 95 (pBin .leq (tg 94) (cv (.int .i64 5)))]
@[simp] def o_q_Expression_14_ap := ops_rule (c := o_q_Expression_14) rfl
def o_q_Expression_15 : List IS := [ip 96 (pFaddr 3 (tg 7)),
  il 97 (tg 96) (mLoad1 (tg 96)),
  ip 98 (pBin .neq (tg 97) (cv (.int .i64 0)))]
@[simp] def o_q_Expression_15_ap := ops_rule (c := o_q_Expression_15) rfl
def o_q_Expression_16 : List IS := [ip 4 (pMov (cv (.bool false)))]
@[simp] def o_q_Expression_16_ap := ops_rule (c := o_q_Expression_16) rfl
def c_q_Expression_15 : SC := sSeq (sReg (seqI o_q_Expression_16)) sRet
@[simp] def c_q_Expression_15_ap := seq_rule (c := c_q_Expression_15) rfl
def c_q_Expression_16 : SC := sCond (tg 98) c_q_Expression_15 sSkip
@[simp] def c_q_Expression_16_ap := cond_rule (c := c_q_Expression_16) rfl
def c_q_Expression_17 : SC := sSeq (sReg (seqI o_q_Expression_15)) c_q_Expression_16
@[simp] def c_q_Expression_17_ap := seq_rule (c := c_q_Expression_17) rfl
def c_q_Expression_18 : SC := sSeq c_q_Expression_17 (sExit 1)
@[simp] def c_q_Expression_18_ap := seq_rule (c := c_q_Expression_18) rfl
def c_q_Expression_19 : SC := sCond (tg 95) c_q_Expression_18 sSkip
@[simp] def c_q_Expression_19_ap := cond_rule (c := c_q_Expression_19) rfl
def c_q_Expression_20 : SC := sSeq (sReg (seqI o_q_Expression_14)) c_q_Expression_19
@[simp] def c_q_Expression_20_ap := seq_rule (c := c_q_Expression_20) rfl
def o_q_Expression_17 : List IS := [ip 99 (pFaddr 3 (tg 7)),
  il 100 (tg 99) (mLoad1 (tg 99)),
  ip 101 (pBin .lss (tg 100) (cv (.int .i64 0))),
  ip 102 (pMov (tg 101)),
  gd 102 false (some 103) (ip 103 (pFaddr 3 (tg 7))),
  gd 102 false (some 104) (il 104 (tg 103) (mLoad1 (tg 103))),
  gd 102 false (some 105) (ip 105 (pMov (tg 6))),
  gd 102 false (some 106) (ip 106 (pBin .geq (tg 104) (tg 105))),
  ip 107 (pPick (tg 102) (cv (.bool true)) (tg 106)),
  ip 108 (pMov (tg 107)),
  gd 108 false (some 109) (ip 109 (pMov (tg 5))),
  gd 108 false (some 110) (ip 110 (pFaddr 3 (tg 7))),
  gd 108 false (some 111) (il 111 (tg 110) (mLoad1 (tg 110))),
  gd 108 false (some 112) (ip 112 (pIaddrS 1 (tg 109) (tg 111))),
  gd 108 false (some 113) (il 113 (tg 112) (mLoad1 (tg 112))),
  ip 114 (pPick (tg 108) (cv (.bool true)) (tg 113))]
@[simp] def o_q_Expression_17_ap := ops_rule (c := o_q_Expression_17) rfl
def o_q_Expression_18 : List IS := [ip 4 (pMov (cv (.bool false)))]
@[simp] def o_q_Expression_18_ap := ops_rule (c := o_q_Expression_18) rfl
def c_q_Expression_21 : SC := sSeq (sReg (seqI o_q_Expression_18)) sRet
@[simp] def c_q_Expression_21_ap := seq_rule (c := c_q_Expression_21) rfl
def c_q_Expression_22 : SC := sCond (tg 114) c_q_Expression_21 sSkip
@[simp] def c_q_Expression_22_ap := cond_rule (c := c_q_Expression_22) rfl
def c_q_Expression_23 : SC := sSeq (sReg (seqI o_q_Expression_17)) c_q_Expression_22
@[simp] def c_q_Expression_23_ap := seq_rule (c := c_q_Expression_23) rfl
def o_q_Expression_19 : List IS := [ip 115 (pMov (tg 5)),
  ip 116 (pFaddr 3 (tg 7)),
  il 117 (tg 116) (mLoad1 (tg 116)),
  ip 118 (pIaddrS 1 (tg 115) (tg 117)),
  im0 3 (mStore 1 (tg 118) (cv (.bool true)))]
@[simp] def o_q_Expression_19_ap := ops_rule (c := o_q_Expression_19) rfl
def c_q_Expression_24 : SC := sSeq c_q_Expression_23 (sReg (seqI o_q_Expression_19))
@[simp] def c_q_Expression_24_ap := seq_rule (c := c_q_Expression_24) rfl
def c_q_Expression_25 : SC := sSeq c_q_Expression_20 c_q_Expression_24
@[simp] def c_q_Expression_25_ap := seq_rule (c := c_q_Expression_25) rfl
def c_q_Expression_26 : SC := sSeq (sReg (seqI o_q_Expression_13)) c_q_Expression_25
@[simp] def c_q_Expression_26_ap := seq_rule (c := c_q_Expression_26) rfl
def c_q_Expression_27 : SC := sSeq c_q_Expression_14 c_q_Expression_26
@[simp] def c_q_Expression_27_ap := seq_rule (c := c_q_Expression_27) rfl
def c_q_Expression_28 : SC := sSeq c_q_Expression_11 c_q_Expression_27
@[simp] def c_q_Expression_28_ap := seq_rule (c := c_q_Expression_28) rfl
def c_q_Expression_29 : SC := sSeq (sReg (seqI o_q_Expression_7)) c_q_Expression_28
@[simp] def c_q_Expression_29_ap := seq_rule (c := c_q_Expression_29) rfl
def c_q_Expression_30 : SC := sBlock 1 c_q_Expression_29
@[simp] def c_q_Expression_30_ap := block_rule (c := c_q_Expression_30) rfl
def o_q_Expression_20 : List IS := [ip 24 (pMov (tg 6)),
  ip 25 (pBin .add (tg 24) (cv (.int .i64 1))),
  ip 6 (pMov (tg 25))]
@[simp] def o_q_Expression_20_ap := ops_rule (c := o_q_Expression_20) rfl
def c_q_Expression_31 : SC := sSeq c_q_Expression_30 (sReg (seqI o_q_Expression_20))
@[simp] def c_q_Expression_31_ap := seq_rule (c := c_q_Expression_31) rfl
def c_q_Expression_32 : SC := sSeq c_q_Expression_5 c_q_Expression_31
@[simp] def c_q_Expression_32_ap := seq_rule (c := c_q_Expression_32) rfl
def c_q_Expression_33 : SC := sLoop c_q_Expression_32
def c_q_Expression_34 : SC := sBlock 0 c_q_Expression_33
@[simp] def c_q_Expression_34_ap := block_rule (c := c_q_Expression_34) rfl
def c_q_Expression_35 : SC := sSeq (sReg (seqI o_q_Expression_5)) c_q_Expression_34
@[simp] def c_q_Expression_35_ap := seq_rule (c := c_q_Expression_35) rfl
def o_q_Expression_21 : List IS := [ip 8 (pMov (cv (.int .i64 0)))]
@[simp] def o_q_Expression_21_ap := ops_rule (c := o_q_Expression_21) rfl
def o_q_Expression_22 : List IS := [ip 119 (pMov (tg 8)),
  ip 120 (pMov (tg 0)),
  ip 121 (pLen (tg 120)),
  ip 122 (pBin .sub (tg 121) (cv (.int .i64 1))),
  ip 123 (pBin .lss (tg 119) (tg 122))]
@[simp] def o_q_Expression_22_ap := ops_rule (c := o_q_Expression_22) rfl
def c_q_Expression_36 : SC := sCond (tg 123) sSkip (sExit 2)
@[simp] def c_q_Expression_36_ap := cond_rule (c := c_q_Expression_36) rfl
def c_q_Expression_37 : SC := sSeq (sReg (seqI o_q_Expression_22)) c_q_Expression_36
@[simp] def c_q_Expression_37_ap := seq_rule (c := c_q_Expression_37) rfl
def o_q_Expression_23 : List IS := [ip 126 (pMov (tg 5)),
  ip 127 (pMov (tg 8)),
  ip 128 (pIaddrS 1 (tg 126) (tg 127)),
  il 129 (tg 128) (mLoad1 (tg 128)),
  ip 130 (pUn .not (tg 129))]
@[simp] def o_q_Expression_23_ap := ops_rule (c := o_q_Expression_23) rfl
def o_q_Expression_24 : List IS := [ip 4 (pMov (cv (.bool false)))]
@[simp] def o_q_Expression_24_ap := ops_rule (c := o_q_Expression_24) rfl
def c_q_Expression_38 : SC := sSeq (sReg (seqI o_q_Expression_24)) sRet
@[simp] def c_q_Expression_38_ap := seq_rule (c := c_q_Expression_38) rfl
def c_q_Expression_39 : SC := sCond (tg 130) c_q_Expression_38 sSkip
@[simp] def c_q_Expression_39_ap := cond_rule (c := c_q_Expression_39) rfl
def c_q_Expression_40 : SC := sSeq (sReg (seqI o_q_Expression_23)) c_q_Expression_39
@[simp] def c_q_Expression_40_ap := seq_rule (c := c_q_Expression_40) rfl
def c_q_Expression_41 : SC := sBlock 3 c_q_Expression_40
@[simp] def c_q_Expression_41_ap := block_rule (c := c_q_Expression_41) rfl
def o_q_Expression_25 : List IS := [ip 124 (pMov (tg 8)),
  ip 125 (pBin .add (tg 124) (cv (.int .i64 1))),
  ip 8 (pMov (tg 125))]
@[simp] def o_q_Expression_25_ap := ops_rule (c := o_q_Expression_25) rfl
def c_q_Expression_42 : SC := sSeq c_q_Expression_41 (sReg (seqI o_q_Expression_25))
@[simp] def c_q_Expression_42_ap := seq_rule (c := c_q_Expression_42) rfl
def c_q_Expression_43 : SC := sSeq c_q_Expression_37 c_q_Expression_42
@[simp] def c_q_Expression_43_ap := seq_rule (c := c_q_Expression_43) rfl
def c_q_Expression_44 : SC := sLoop c_q_Expression_43
def c_q_Expression_45 : SC := sBlock 2 c_q_Expression_44
@[simp] def c_q_Expression_45_ap := block_rule (c := c_q_Expression_45) rfl
def c_q_Expression_46 : SC := sSeq (sReg (seqI o_q_Expression_21)) c_q_Expression_45
@[simp] def c_q_Expression_46_ap := seq_rule (c := c_q_Expression_46) rfl
def o_q_Expression_26 : List IS := [ip 4 (pMov (cv (.bool true)))]
@[simp] def o_q_Expression_26_ap := ops_rule (c := o_q_Expression_26) rfl
def c_q_Expression_47 : SC := sSeq (sReg (seqI o_q_Expression_26)) sRet
@[simp] def c_q_Expression_47_ap := seq_rule (c := c_q_Expression_47) rfl
def c_q_Expression_48 : SC := sSeq c_q_Expression_46 c_q_Expression_47
@[simp] def c_q_Expression_48_ap := seq_rule (c := c_q_Expression_48) rfl
def c_q_Expression_49 : SC := sSeq c_q_Expression_35 c_q_Expression_48
@[simp] def c_q_Expression_49_ap := seq_rule (c := c_q_Expression_49) rfl
def c_q_Expression_50 : SC := sSeq (sReg (seqI o_q_Expression_4)) c_q_Expression_49
@[simp] def c_q_Expression_50_ap := seq_rule (c := c_q_Expression_50) rfl
def c_q_Expression_51 : SC := sSeq c_q_Expression_3 c_q_Expression_50
@[simp] def c_q_Expression_51_ap := seq_rule (c := c_q_Expression_51) rfl
def c_q_Expression_52 : SC := sSeq (sReg (seqI o_q_Expression_1)) c_q_Expression_51
@[simp] def c_q_Expression_52_ap := seq_rule (c := c_q_Expression_52) rfl
def d_q_Expression : DFn := ⟨c_q_Expression_52, 131, [.t 4]⟩
theorem d_q_Expression_ok : fnOf Try.prog 23 = some d_q_Expression := by kernel_rfl
def o_u_Of_1 : List IS := [ip 4 (pMov (cv (.int .u64 0)))]
@[simp] def o_u_Of_1_ap := ops_rule (c := o_u_Of_1) rfl
def o_u_Of_2 : List IS := [ip 5 (pMov (tg 0)),
  ip 6 (pMov (tg 0)),
  ip 7 (pLen (tg 6)),
  ip 8 (pBin .sub (tg 7) (cv (.int .i64 1))),
  ip 9 (pMov (tg 1)),
  im 3 10 (mCall 43 [(tg 5), (tg 8), (tg 9)]),
  ip 4 (pMov (tg 10))]
@[simp] def o_u_Of_2_ap := ops_rule (c := o_u_Of_2) rfl
def c_u_Of_1 : SC := sSeq (sReg (seqI o_u_Of_2)) sRet
@[simp] def c_u_Of_1_ap := seq_rule (c := c_u_Of_1) rfl
def c_u_Of_2 : SC := sSeq (sReg (seqI o_u_Of_1)) c_u_Of_1
@[simp] def c_u_Of_2_ap := seq_rule (c := c_u_Of_2) rfl
def d_u_Of : DFn := ⟨c_u_Of_2, 11, [.t 4]⟩
theorem d_u_Of_ok : fnOf Try.prog 24 = some d_u_Of := by kernel_rfl
def o_u_Numbers_1 : List IS := [ip 4 (pMov (cv (.bool false)))]
@[simp] def o_u_Numbers_1_ap := ops_rule (c := o_u_Numbers_1) rfl
def o_u_Numbers_2 : List IS := [ip 6 (pMov (tg 0)),
  ip 7 (pLen (tg 6)),
  ip 8 (pMov (tg 1)),
  ip 9 (pLen (tg 8)),
  ip 10 (pBin .neq (tg 7) (tg 9))]
@[simp] def o_u_Numbers_2_ap := ops_rule (c := o_u_Numbers_2) rfl
def o_u_Numbers_3 : List IS := [ip 4 (pMov (cv (.bool false)))]
@[simp] def o_u_Numbers_3_ap := ops_rule (c := o_u_Numbers_3) rfl
def c_u_Numbers_1 : SC := sSeq (sReg (seqI o_u_Numbers_3)) sRet
@[simp] def c_u_Numbers_1_ap := seq_rule (c := c_u_Numbers_1) rfl
def c_u_Numbers_2 : SC := sCond (tg 10) c_u_Numbers_1 sSkip
@[simp] def c_u_Numbers_2_ap := cond_rule (c := c_u_Numbers_2) rfl
def c_u_Numbers_3 : SC := sSeq (sReg (seqI o_u_Numbers_2)) c_u_Numbers_2
@[simp] def c_u_Numbers_3_ap := seq_rule (c := c_u_Numbers_3) rfl
def o_u_Numbers_4 : List IS := [ip 5 (pMov (cv (.int .i64 0)))]
@[simp] def o_u_Numbers_4_ap := ops_rule (c := o_u_Numbers_4) rfl
def o_u_Numbers_5 : List IS := [ip 11 (pMov (tg 5)),
  ip 12 (pMov (tg 0)),
  ip 13 (pLen (tg 12)),
  ip 14 (pBin .lss (tg 11) (tg 13))]
@[simp] def o_u_Numbers_5_ap := ops_rule (c := o_u_Numbers_5) rfl
def c_u_Numbers_4 : SC := sCond (tg 14) sSkip (sExit 0)
@[simp] def c_u_Numbers_4_ap := cond_rule (c := c_u_Numbers_4) rfl
def c_u_Numbers_5 : SC := sSeq (sReg (seqI o_u_Numbers_5)) c_u_Numbers_4
@[simp] def c_u_Numbers_5_ap := seq_rule (c := c_u_Numbers_5) rfl
def o_u_Numbers_6 : List DA := [⟨CI.pure (pMov (tg 0)), (some 17), none, 0, []⟩,
  ⟨CI.pure (pMov (tg 5)), (some 18), none, 1, []⟩,
  ⟨CI.pure (pIaddrS 1 (tg 17) (tg 18)), (some 19), none, 2, []⟩,
  ⟨CI.load (tg 19) (mLoad1 (tg 19)), (some 20), none, 3, []⟩,
  ⟨CI.pure (pMov (tg 1)), (some 21), none, 4, []⟩,
  ⟨CI.pure (pMov (tg 5)), (some 22), none, 5, []⟩,
  ⟨CI.pure (pIaddrS 1 (tg 21) (tg 22)), (some 23), none, 6, []⟩,
  ⟨CI.load (tg 23) (mLoad1 (tg 23)), (some 24), none, 7, []⟩,
  ⟨CI.pure (pBin .neq (tg 20) (tg 24)), (some 25), none, 8, []⟩]
@[simp] def o_u_Numbers_6_ap := das_rule (c := o_u_Numbers_6) rfl
def o_u_Numbers_7 : List IS := [ip 4 (pMov (cv (.bool false)))]
@[simp] def o_u_Numbers_7_ap := ops_rule (c := o_u_Numbers_7) rfl
def c_u_Numbers_6 : SC := sSeq (sReg (seqI o_u_Numbers_7)) sRet
@[simp] def c_u_Numbers_6_ap := seq_rule (c := c_u_Numbers_6) rfl
def c_u_Numbers_7 : SC := sCond (tg 25) c_u_Numbers_6 sSkip
@[simp] def c_u_Numbers_7_ap := cond_rule (c := c_u_Numbers_7) rfl
def c_u_Numbers_8 : SC := sSeq (sAny o_u_Numbers_6) c_u_Numbers_7
@[simp] def c_u_Numbers_8_ap := seq_rule (c := c_u_Numbers_8) rfl
def c_u_Numbers_9 : SC := sBlock 1 c_u_Numbers_8
@[simp] def c_u_Numbers_9_ap := block_rule (c := c_u_Numbers_9) rfl
def o_u_Numbers_8 : List IS := [ip 15 (pMov (tg 5)),
  ip 16 (pBin .add (tg 15) (cv (.int .i64 1))),
  ip 5 (pMov (tg 16))]
@[simp] def o_u_Numbers_8_ap := ops_rule (c := o_u_Numbers_8) rfl
def c_u_Numbers_10 : SC := sSeq c_u_Numbers_9 (sReg (seqI o_u_Numbers_8))
@[simp] def c_u_Numbers_10_ap := seq_rule (c := c_u_Numbers_10) rfl
def c_u_Numbers_11 : SC := sSeq c_u_Numbers_5 c_u_Numbers_10
@[simp] def c_u_Numbers_11_ap := seq_rule (c := c_u_Numbers_11) rfl
def c_u_Numbers_12 : SC := sLoop c_u_Numbers_11
def c_u_Numbers_13 : SC := sBlock 0 c_u_Numbers_12
@[simp] def c_u_Numbers_13_ap := block_rule (c := c_u_Numbers_13) rfl
def c_u_Numbers_14 : SC := sSeq (sReg (seqI o_u_Numbers_4)) c_u_Numbers_13
@[simp] def c_u_Numbers_14_ap := seq_rule (c := c_u_Numbers_14) rfl
def o_u_Numbers_9 : List IS := [ip 4 (pMov (cv (.bool true)))]
@[simp] def o_u_Numbers_9_ap := ops_rule (c := o_u_Numbers_9) rfl
def c_u_Numbers_15 : SC := sSeq (sReg (seqI o_u_Numbers_9)) sRet
@[simp] def c_u_Numbers_15_ap := seq_rule (c := c_u_Numbers_15) rfl
def c_u_Numbers_16 : SC := sSeq c_u_Numbers_14 c_u_Numbers_15
@[simp] def c_u_Numbers_16_ap := seq_rule (c := c_u_Numbers_16) rfl
def c_u_Numbers_17 : SC := sSeq c_u_Numbers_3 c_u_Numbers_16
@[simp] def c_u_Numbers_17_ap := seq_rule (c := c_u_Numbers_17) rfl
def c_u_Numbers_18 : SC := sSeq (sReg (seqI o_u_Numbers_1)) c_u_Numbers_17
@[simp] def c_u_Numbers_18_ap := seq_rule (c := c_u_Numbers_18) rfl
def d_u_Numbers : DFn := ⟨c_u_Numbers_18, 26, [.t 4]⟩
theorem d_u_Numbers_ok : fnOf Try.prog 25 = some d_u_Numbers := by kernel_rfl
def o_u_pairs_1 : List IS := [ip 4 (pMov (cv (.bool false)))]
@[simp] def o_u_pairs_1_ap := ops_rule (c := o_u_pairs_1) rfl
def o_u_pairs_2 : List IS := [ip 6 (pMov (tg 0)),
  ip 7 (pLen (tg 6)),
  ip 8 (pMov (tg 1)),
  ip 9 (pLen (tg 8)),
  ip 10 (pBin .neq (tg 7) (tg 9))]
@[simp] def o_u_pairs_2_ap := ops_rule (c := o_u_pairs_2) rfl
def o_u_pairs_3 : List IS := [ip 4 (pMov (cv (.bool false)))]
@[simp] def o_u_pairs_3_ap := ops_rule (c := o_u_pairs_3) rfl
def c_u_pairs_1 : SC := sSeq (sReg (seqI o_u_pairs_3)) sRet
@[simp] def c_u_pairs_1_ap := seq_rule (c := c_u_pairs_1) rfl
def c_u_pairs_2 : SC := sCond (tg 10) c_u_pairs_1 sSkip
@[simp] def c_u_pairs_2_ap := cond_rule (c := c_u_pairs_2) rfl
def c_u_pairs_3 : SC := sSeq (sReg (seqI o_u_pairs_2)) c_u_pairs_2
@[simp] def c_u_pairs_3_ap := seq_rule (c := c_u_pairs_3) rfl
def o_u_pairs_4 : List IS := [ip 5 (pMov (cv (.int .i64 0)))]
@[simp] def o_u_pairs_4_ap := ops_rule (c := o_u_pairs_4) rfl
def o_u_pairs_5 : List IS := [ip 11 (pMov (tg 5)),
  ip 12 (pMov (tg 0)),
  ip 13 (pLen (tg 12)),
  ip 14 (pBin .lss (tg 11) (tg 13))]
@[simp] def o_u_pairs_5_ap := ops_rule (c := o_u_pairs_5) rfl
def c_u_pairs_4 : SC := sCond (tg 14) sSkip (sExit 0)
@[simp] def c_u_pairs_4_ap := cond_rule (c := c_u_pairs_4) rfl
def c_u_pairs_5 : SC := sSeq (sReg (seqI o_u_pairs_5)) c_u_pairs_4
@[simp] def c_u_pairs_5_ap := seq_rule (c := c_u_pairs_5) rfl
def o_u_pairs_6 : List DA := [⟨CI.pure (pMov (tg 0)), (some 17), none, 0, []⟩,
  ⟨CI.pure (pMov (tg 5)), (some 18), none, 1, []⟩,
  ⟨CI.pure (pIaddrS 2 (tg 17) (tg 18)), (some 19), none, 2, []⟩,
  ⟨CI.load (tg 19) (mLoadN 2 (tg 19)), (some 20), none, 3, []⟩,
  ⟨CI.pure (pMov (tg 1)), (some 21), none, 4, []⟩,
  ⟨CI.pure (pMov (tg 5)), (some 22), none, 5, []⟩,
  ⟨CI.pure (pIaddrS 2 (tg 21) (tg 22)), (some 23), none, 6, []⟩,
  ⟨CI.load (tg 23) (mLoadN 2 (tg 23)), (some 24), none, 7, []⟩,
  ⟨CI.pure (pEqF true [1, 1] (tg 20) (tg 24)), (some 25), none, 8, []⟩]
@[simp] def o_u_pairs_6_ap := das_rule (c := o_u_pairs_6) rfl
def o_u_pairs_7 : List IS := [ip 4 (pMov (cv (.bool false)))]
@[simp] def o_u_pairs_7_ap := ops_rule (c := o_u_pairs_7) rfl
def c_u_pairs_6 : SC := sSeq (sReg (seqI o_u_pairs_7)) sRet
@[simp] def c_u_pairs_6_ap := seq_rule (c := c_u_pairs_6) rfl
def c_u_pairs_7 : SC := sCond (tg 25) c_u_pairs_6 sSkip
@[simp] def c_u_pairs_7_ap := cond_rule (c := c_u_pairs_7) rfl
def c_u_pairs_8 : SC := sSeq (sAny o_u_pairs_6) c_u_pairs_7
@[simp] def c_u_pairs_8_ap := seq_rule (c := c_u_pairs_8) rfl
def c_u_pairs_9 : SC := sBlock 1 c_u_pairs_8
@[simp] def c_u_pairs_9_ap := block_rule (c := c_u_pairs_9) rfl
def o_u_pairs_8 : List IS := [ip 15 (pMov (tg 5)),
  ip 16 (pBin .add (tg 15) (cv (.int .i64 1))),
  ip 5 (pMov (tg 16))]
@[simp] def o_u_pairs_8_ap := ops_rule (c := o_u_pairs_8) rfl
def c_u_pairs_10 : SC := sSeq c_u_pairs_9 (sReg (seqI o_u_pairs_8))
@[simp] def c_u_pairs_10_ap := seq_rule (c := c_u_pairs_10) rfl
def c_u_pairs_11 : SC := sSeq c_u_pairs_5 c_u_pairs_10
@[simp] def c_u_pairs_11_ap := seq_rule (c := c_u_pairs_11) rfl
def c_u_pairs_12 : SC := sLoop c_u_pairs_11
def c_u_pairs_13 : SC := sBlock 0 c_u_pairs_12
@[simp] def c_u_pairs_13_ap := block_rule (c := c_u_pairs_13) rfl
def c_u_pairs_14 : SC := sSeq (sReg (seqI o_u_pairs_4)) c_u_pairs_13
@[simp] def c_u_pairs_14_ap := seq_rule (c := c_u_pairs_14) rfl
def o_u_pairs_9 : List IS := [ip 4 (pMov (cv (.bool true)))]
@[simp] def o_u_pairs_9_ap := ops_rule (c := o_u_pairs_9) rfl
def c_u_pairs_15 : SC := sSeq (sReg (seqI o_u_pairs_9)) sRet
@[simp] def c_u_pairs_15_ap := seq_rule (c := c_u_pairs_15) rfl
def c_u_pairs_16 : SC := sSeq c_u_pairs_14 c_u_pairs_15
@[simp] def c_u_pairs_16_ap := seq_rule (c := c_u_pairs_16) rfl
def c_u_pairs_17 : SC := sSeq c_u_pairs_3 c_u_pairs_16
@[simp] def c_u_pairs_17_ap := seq_rule (c := c_u_pairs_17) rfl
def c_u_pairs_18 : SC := sSeq (sReg (seqI o_u_pairs_1)) c_u_pairs_17
@[simp] def c_u_pairs_18_ap := seq_rule (c := c_u_pairs_18) rfl
def d_u_pairs : DFn := ⟨c_u_pairs_18, 26, [.t 4]⟩
theorem d_u_pairs_ok : fnOf Try.prog 26 = some d_u_pairs := by kernel_rfl
def o_s_Clone_api_Act_api_Act_1 : List IS := [ip 2 (pMov (cv (.slice none 0 0)))]
@[simp] def o_s_Clone_api_Act_api_Act_1_ap := ops_rule (c := o_s_Clone_api_Act_api_Act_1) rfl
def o_s_Clone_api_Act_api_Act_2 : List IS := [ip 3 (pMov (tg 0)),
  ip 4 (pEqN false nilS true (tg 3) (cv (.slice none 0 0)))]
@[simp] def o_s_Clone_api_Act_api_Act_2_ap := ops_rule (c := o_s_Clone_api_Act_api_Act_2) rfl
def o_s_Clone_api_Act_api_Act_3 : List IS := [ip 2 (pMov (cv (.slice none 0 0)))]
@[simp] def o_s_Clone_api_Act_api_Act_3_ap := ops_rule (c := o_s_Clone_api_Act_api_Act_3) rfl
def c_s_Clone_api_Act_api_Act_1 : SC := sSeq (sReg (seqI o_s_Clone_api_Act_api_Act_3)) sRet
@[simp] def c_s_Clone_api_Act_api_Act_1_ap := seq_rule (c := c_s_Clone_api_Act_api_Act_1) rfl
def c_s_Clone_api_Act_api_Act_2 : SC := sCond (tg 4) c_s_Clone_api_Act_api_Act_1 sSkip
@[simp] def c_s_Clone_api_Act_api_Act_2_ap := cond_rule (c := c_s_Clone_api_Act_api_Act_2) rfl
def c_s_Clone_api_Act_api_Act_3 : SC := sSeq (sReg (seqI o_s_Clone_api_Act_api_Act_2)) c_s_Clone_api_Act_api_Act_2
@[simp] def c_s_Clone_api_Act_api_Act_3_ap := seq_rule (c := c_s_Clone_api_Act_api_Act_3) rfl
def o_s_Clone_api_Act_api_Act_4 : List IS := [im 1 5 (mBslice 11 0 (rep 0 [(.int .i64 0), (.int .i64 0), (.int .i64 0), (.int .i64 0), (.slice none 0 0), (.slice none 0 0), (.slice none 0 0), (.int .i64 0), (.int .i64 0), (.int .i64 0), (.int .i64 0)]) []),
  ip 6 (pMov (tg 0)),
  im 3 7 (mAppend 11 136 (tg 5) (tg 6)),
  ip 2 (pMov (tg 7))]
@[simp] def o_s_Clone_api_Act_api_Act_4_ap := ops_rule (c := o_s_Clone_api_Act_api_Act_4) rfl
def c_s_Clone_api_Act_api_Act_4 : SC := sSeq (sReg (seqI o_s_Clone_api_Act_api_Act_4)) sRet
@[simp] def c_s_Clone_api_Act_api_Act_4_ap := seq_rule (c := c_s_Clone_api_Act_api_Act_4) rfl
def c_s_Clone_api_Act_api_Act_5 : SC := sSeq c_s_Clone_api_Act_api_Act_3 c_s_Clone_api_Act_api_Act_4
@[simp] def c_s_Clone_api_Act_api_Act_5_ap := seq_rule (c := c_s_Clone_api_Act_api_Act_5) rfl
def c_s_Clone_api_Act_api_Act_6 : SC := sSeq (sReg (seqI o_s_Clone_api_Act_api_Act_1)) c_s_Clone_api_Act_api_Act_5
@[simp] def c_s_Clone_api_Act_api_Act_6_ap := seq_rule (c := c_s_Clone_api_Act_api_Act_6) rfl
def d_s_Clone_api_Act_api_Act : DFn := ⟨c_s_Clone_api_Act_api_Act_6, 8, [.t 2]⟩
theorem d_s_Clone_api_Act_api_Act_ok : fnOf Try.prog 27 = some d_s_Clone_api_Act_api_Act := by kernel_rfl
def o_s_Clone_api_Node_api_Node_1 : List IS := [ip 2 (pMov (cv (.slice none 0 0)))]
@[simp] def o_s_Clone_api_Node_api_Node_1_ap := ops_rule (c := o_s_Clone_api_Node_api_Node_1) rfl
def o_s_Clone_api_Node_api_Node_2 : List IS := [ip 3 (pMov (tg 0)),
  ip 4 (pEqN false nilS true (tg 3) (cv (.slice none 0 0)))]
@[simp] def o_s_Clone_api_Node_api_Node_2_ap := ops_rule (c := o_s_Clone_api_Node_api_Node_2) rfl
def o_s_Clone_api_Node_api_Node_3 : List IS := [ip 2 (pMov (cv (.slice none 0 0)))]
@[simp] def o_s_Clone_api_Node_api_Node_3_ap := ops_rule (c := o_s_Clone_api_Node_api_Node_3) rfl
def c_s_Clone_api_Node_api_Node_1 : SC := sSeq (sReg (seqI o_s_Clone_api_Node_api_Node_3)) sRet
@[simp] def c_s_Clone_api_Node_api_Node_1_ap := seq_rule (c := c_s_Clone_api_Node_api_Node_1) rfl
def c_s_Clone_api_Node_api_Node_2 : SC := sCond (tg 4) c_s_Clone_api_Node_api_Node_1 sSkip
@[simp] def c_s_Clone_api_Node_api_Node_2_ap := cond_rule (c := c_s_Clone_api_Node_api_Node_2) rfl
def c_s_Clone_api_Node_api_Node_3 : SC := sSeq (sReg (seqI o_s_Clone_api_Node_api_Node_2)) c_s_Clone_api_Node_api_Node_2
@[simp] def c_s_Clone_api_Node_api_Node_3_ap := seq_rule (c := c_s_Clone_api_Node_api_Node_3) rfl
def o_s_Clone_api_Node_api_Node_4 : List IS := [im 1 5 (mBslice 4 0 (rep 0 [(.int .i64 0), (.int .u64 0), (.int .i64 0), (.int .i64 0)]) []),
  ip 6 (pMov (tg 0)),
  im 3 7 (mAppend 4 32 (tg 5) (tg 6)),
  ip 2 (pMov (tg 7))]
@[simp] def o_s_Clone_api_Node_api_Node_4_ap := ops_rule (c := o_s_Clone_api_Node_api_Node_4) rfl
def c_s_Clone_api_Node_api_Node_4 : SC := sSeq (sReg (seqI o_s_Clone_api_Node_api_Node_4)) sRet
@[simp] def c_s_Clone_api_Node_api_Node_4_ap := seq_rule (c := c_s_Clone_api_Node_api_Node_4) rfl
def c_s_Clone_api_Node_api_Node_5 : SC := sSeq c_s_Clone_api_Node_api_Node_3 c_s_Clone_api_Node_api_Node_4
@[simp] def c_s_Clone_api_Node_api_Node_5_ap := seq_rule (c := c_s_Clone_api_Node_api_Node_5) rfl
def c_s_Clone_api_Node_api_Node_6 : SC := sSeq (sReg (seqI o_s_Clone_api_Node_api_Node_1)) c_s_Clone_api_Node_api_Node_5
@[simp] def c_s_Clone_api_Node_api_Node_6_ap := seq_rule (c := c_s_Clone_api_Node_api_Node_6) rfl
def d_s_Clone_api_Node_api_Node : DFn := ⟨c_s_Clone_api_Node_api_Node_6, 8, [.t 2]⟩
theorem d_s_Clone_api_Node_api_Node_ok : fnOf Try.prog 28 = some d_s_Clone_api_Node_api_Node := by kernel_rfl
def o_s_Clone_uint64_uint64_1 : List IS := [ip 2 (pMov (cv (.slice none 0 0)))]
@[simp] def o_s_Clone_uint64_uint64_1_ap := ops_rule (c := o_s_Clone_uint64_uint64_1) rfl
def o_s_Clone_uint64_uint64_2 : List IS := [ip 3 (pMov (tg 0)),
  ip 4 (pEqN false nilS true (tg 3) (cv (.slice none 0 0)))]
@[simp] def o_s_Clone_uint64_uint64_2_ap := ops_rule (c := o_s_Clone_uint64_uint64_2) rfl
def o_s_Clone_uint64_uint64_3 : List IS := [ip 2 (pMov (cv (.slice none 0 0)))]
@[simp] def o_s_Clone_uint64_uint64_3_ap := ops_rule (c := o_s_Clone_uint64_uint64_3) rfl
def c_s_Clone_uint64_uint64_1 : SC := sSeq (sReg (seqI o_s_Clone_uint64_uint64_3)) sRet
@[simp] def c_s_Clone_uint64_uint64_1_ap := seq_rule (c := c_s_Clone_uint64_uint64_1) rfl
def c_s_Clone_uint64_uint64_2 : SC := sCond (tg 4) c_s_Clone_uint64_uint64_1 sSkip
@[simp] def c_s_Clone_uint64_uint64_2_ap := cond_rule (c := c_s_Clone_uint64_uint64_2) rfl
def c_s_Clone_uint64_uint64_3 : SC := sSeq (sReg (seqI o_s_Clone_uint64_uint64_2)) c_s_Clone_uint64_uint64_2
@[simp] def c_s_Clone_uint64_uint64_3_ap := seq_rule (c := c_s_Clone_uint64_uint64_3) rfl
def o_s_Clone_uint64_uint64_4 : List IS := [im 1 5 (mBslice 1 0 (rep 0 [(.int .u64 0)]) []),
  ip 6 (pMov (tg 0)),
  im 3 7 (mAppend 1 8 (tg 5) (tg 6)),
  ip 2 (pMov (tg 7))]
@[simp] def o_s_Clone_uint64_uint64_4_ap := ops_rule (c := o_s_Clone_uint64_uint64_4) rfl
def c_s_Clone_uint64_uint64_4 : SC := sSeq (sReg (seqI o_s_Clone_uint64_uint64_4)) sRet
@[simp] def c_s_Clone_uint64_uint64_4_ap := seq_rule (c := c_s_Clone_uint64_uint64_4) rfl
def c_s_Clone_uint64_uint64_5 : SC := sSeq c_s_Clone_uint64_uint64_3 c_s_Clone_uint64_uint64_4
@[simp] def c_s_Clone_uint64_uint64_5_ap := seq_rule (c := c_s_Clone_uint64_uint64_5) rfl
def c_s_Clone_uint64_uint64_6 : SC := sSeq (sReg (seqI o_s_Clone_uint64_uint64_1)) c_s_Clone_uint64_uint64_5
@[simp] def c_s_Clone_uint64_uint64_6_ap := seq_rule (c := c_s_Clone_uint64_uint64_6) rfl
def d_s_Clone_uint64_uint64 : DFn := ⟨c_s_Clone_uint64_uint64_6, 8, [.t 2]⟩
theorem d_s_Clone_uint64_uint64_ok : fnOf Try.prog 29 = some d_s_Clone_uint64_uint64 := by kernel_rfl
def o_h_Machine_set_1 : List IS := [im 1 3 (mBox (tg 1)),
  im 1 4 (mAlloc [(.int .i64 0), (.int .i64 0), (.int .i64 0), (.int .u64 0), (.bool false), (.bool false)])]
@[simp] def o_h_Machine_set_1_ap := ops_rule (c := o_h_Machine_set_1) rfl
def o_h_Machine_set_2 : List DA := [⟨CI.pure (pMov (tg 0)), (some 5), none, 0, []⟩,
  ⟨CI.pure (pNilck (tg 5)), (some 6), none, 1, []⟩,
  ⟨CI.pure (pFaddr 3 (tg 6)), (some 7), none, 2, []⟩,
  ⟨CI.load (tg 7) (mLoad1 (tg 7)), (some 8), none, 3, []⟩,
  ⟨CI.pure (pFaddr 1 (tg 3)), (some 9), none, 4, []⟩,
  ⟨CI.load (tg 9) (mLoad1 (tg 9)), (some 10), none, 5, []⟩,
  ⟨CI.pure (pFaddr 5 (tg 3)), (some 11), none, 6, []⟩,
  ⟨CI.load (tg 11) (mLoad1 (tg 11)), (some 12), none, 7, []⟩,
  ⟨CI.pure (pMov (tg 0)), (some 13), none, 8, []⟩,
  ⟨CI.pure (pNilck (tg 13)), (some 14), none, 9, []⟩,
  ⟨CI.pure (pFaddr 3 (tg 14)), (some 15), none, 10, []⟩,
  ⟨CI.load (tg 15) (mLoad1 (tg 15)), (some 16), none, 11, []⟩,
  ⟨CI.mem 3 (mCall 22 [(tg 12), (tg 16)]), (some 17), none, 12, [3, 5]⟩,
  ⟨CI.pure (pIaddrS 1 (tg 8) (tg 10)), (some 18), none, 13, []⟩,
  ⟨CI.mem 3 (mStore 1 (tg 18) (tg 17)), none, none, 14, []⟩]
@[simp] def o_h_Machine_set_2_ap := das_rule (c := o_h_Machine_set_2) rfl
def o_h_Machine_set_3 : List IS := [ip 19 (pMov (tg 0)),
  ip 20 (pNilck (tg 19)),
  ip 21 (pFaddr 2 (tg 20)),
  il 22 (tg 21) (mLoad1 (tg 21)),
  ip 23 (pBin .add (tg 22) (cv (.int .i64 1))),
  ip 24 (pNilck (tg 19)),
  ip 25 (pFaddr 2 (tg 24)),
  im0 3 (mStore 1 (tg 25) (tg 23))]
@[simp] def o_h_Machine_set_3_ap := ops_rule (c := o_h_Machine_set_3) rfl
def o_h_Machine_set_4 : List IS := [ip 26 (pBuild [(.int .i64 0), (.int .i64 0), (.int .i64 0), (.int .u64 0), (.bool false), (.bool false)] []),
  im0 3 (mStore 6 (tg 4) (tg 26))]
@[simp] def o_h_Machine_set_4_ap := ops_rule (c := o_h_Machine_set_4) rfl
def c_h_Machine_set_1 : SC := sSeq (sReg (seqI o_h_Machine_set_4)) sRet
@[simp] def c_h_Machine_set_1_ap := seq_rule (c := c_h_Machine_set_1) rfl
def c_h_Machine_set_2 : SC := sSeq (sReg (seqI o_h_Machine_set_3)) c_h_Machine_set_1
@[simp] def c_h_Machine_set_2_ap := seq_rule (c := c_h_Machine_set_2) rfl
def c_h_Machine_set_3 : SC := sSeq (sAny o_h_Machine_set_2) c_h_Machine_set_2
@[simp] def c_h_Machine_set_3_ap := seq_rule (c := c_h_Machine_set_3) rfl
def c_h_Machine_set_4 : SC := sSeq (sReg (seqI o_h_Machine_set_1)) c_h_Machine_set_3
@[simp] def c_h_Machine_set_4_ap := seq_rule (c := c_h_Machine_set_4) rfl
def d_h_Machine_set : DFn := ⟨c_h_Machine_set_4, 27, [.cell 4 6]⟩
theorem d_h_Machine_set_ok : fnOf Try.prog 30 = some d_h_Machine_set := by kernel_rfl
def o_h_Machine_load_1 : List IS := [im 1 3 (mBox (tg 1)),
  im 1 4 (mAlloc [(.int .i64 0), (.int .i64 0), (.int .i64 0), (.int .u64 0), (.bool false), (.bool false)])]
@[simp] def o_h_Machine_load_1_ap := ops_rule (c := o_h_Machine_load_1) rfl
def o_h_Machine_load_2 : List DA := [⟨CI.pure (pMov (tg 0)), (some 5), none, 0, []⟩,
  ⟨CI.load (tg 3) (mLoadN 11 (tg 3)), (some 6), none, 1, []⟩,
  ⟨CI.mem 3 (mCall 44 [(tg 5), (tg 6)]), (some 7), none, 2, []⟩,
  ⟨CI.pure (pFaddr 7 (tg 3)), (some 8), none, 3, []⟩,
  ⟨CI.load (tg 8) (mLoad1 (tg 8)), (some 9), none, 4, [2]⟩,
  ⟨CI.pure (pBuild [(.int .i64 0), (.int .i64 0), (.int .i64 0), (.int .u64 0), (.bool false), (.bool false)] [(0, 1, (cv (.int .i64 1))), (1, 1, (tg 7)), (2, 1, (tg 9))]), (some 10), none, 5, []⟩,
  ⟨CI.mem 3 (mStore 6 (tg 4) (tg 10)), none, none, 6, []⟩]
@[simp] def o_h_Machine_load_2_ap := das_rule (c := o_h_Machine_load_2) rfl
def c_h_Machine_load_1 : SC := sSeq (sAny o_h_Machine_load_2) sRet
@[simp] def c_h_Machine_load_1_ap := seq_rule (c := c_h_Machine_load_1) rfl
def c_h_Machine_load_2 : SC := sSeq (sReg (seqI o_h_Machine_load_1)) c_h_Machine_load_1
@[simp] def c_h_Machine_load_2_ap := seq_rule (c := c_h_Machine_load_2) rfl
def d_h_Machine_load : DFn := ⟨c_h_Machine_load_2, 11, [.cell 4 6]⟩
theorem d_h_Machine_load_ok : fnOf Try.prog 31 = some d_h_Machine_load := by kernel_rfl
def o_h_Machine_store_1 : List IS := [im 1 3 (mBox (tg 1)),
  im 1 4 (mAlloc [(.int .i64 0), (.int .i64 0), (.int .i64 0), (.int .u64 0), (.bool false), (.bool false)])]
@[simp] def o_h_Machine_store_1_ap := ops_rule (c := o_h_Machine_store_1) rfl
def o_h_Machine_store_2 : List DA := [⟨CI.pure (pMov (tg 0)), (some 5), none, 0, []⟩,
  ⟨CI.load (tg 3) (mLoadN 11 (tg 3)), (some 6), none, 1, []⟩,
  ⟨CI.mem 3 (mCall 44 [(tg 5), (tg 6)]), (some 7), none, 2, []⟩,
  ⟨CI.pure (pFaddr 7 (tg 3)), (some 8), none, 3, []⟩,
  ⟨CI.load (tg 8) (mLoad1 (tg 8)), (some 9), none, 4, [2]⟩,
  ⟨CI.pure (pFaddr 5 (tg 3)), (some 10), none, 5, []⟩,
  ⟨CI.load (tg 10) (mLoad1 (tg 10)), (some 11), none, 6, [2]⟩,
  ⟨CI.pure (pMov (tg 0)), (some 12), none, 7, []⟩,
  ⟨CI.pure (pNilck (tg 12)), (some 13), none, 8, []⟩,
  ⟨CI.pure (pFaddr 3 (tg 13)), (some 14), none, 9, []⟩,
  ⟨CI.load (tg 14) (mLoad1 (tg 14)), (some 15), none, 10, [2]⟩,
  ⟨CI.mem 3 (mCall 22 [(tg 11), (tg 15)]), (some 16), none, 11, [4]⟩,
  ⟨CI.pure (pBuild [(.int .i64 0), (.int .i64 0), (.int .i64 0), (.int .u64 0), (.bool false), (.bool false)] [(0, 1, (cv (.int .i64 2))), (1, 1, (tg 7)), (2, 1, (tg 9)), (3, 1, (tg 16))]), (some 17), none, 12, []⟩,
  ⟨CI.mem 3 (mStore 6 (tg 4) (tg 17)), none, none, 13, []⟩]
@[simp] def o_h_Machine_store_2_ap := das_rule (c := o_h_Machine_store_2) rfl
def c_h_Machine_store_1 : SC := sSeq (sAny o_h_Machine_store_2) sRet
@[simp] def c_h_Machine_store_1_ap := seq_rule (c := c_h_Machine_store_1) rfl
def c_h_Machine_store_2 : SC := sSeq (sReg (seqI o_h_Machine_store_1)) c_h_Machine_store_1
@[simp] def c_h_Machine_store_2_ap := seq_rule (c := c_h_Machine_store_2) rfl
def d_h_Machine_store : DFn := ⟨c_h_Machine_store_2, 18, [.cell 4 6]⟩
theorem d_h_Machine_store_ok : fnOf Try.prog 32 = some d_h_Machine_store := by kernel_rfl
def o_h_Machine_pair_1 : List IS := [im 1 3 (mBox (tg 1)),
  im 1 4 (mAlloc [(.int .i64 0), (.int .i64 0), (.int .i64 0), (.int .u64 0), (.bool false), (.bool false)])]
@[simp] def o_h_Machine_pair_1_ap := ops_rule (c := o_h_Machine_pair_1) rfl
def o_h_Machine_pair_2 : List DA := [⟨CI.pure (pMov (tg 0)), (some 6), none, 0, []⟩,
  ⟨CI.load (tg 3) (mLoadN 11 (tg 3)), (some 7), none, 1, []⟩,
  ⟨CI.mem 3 (mCall 44 [(tg 6), (tg 7)]), (some 8), none, 2, []⟩,
  ⟨CI.pure (pFaddr 7 (tg 3)), (some 9), none, 3, []⟩,
  ⟨CI.load (tg 9) (mLoad1 (tg 9)), (some 10), none, 4, [2]⟩,
  ⟨CI.mem 3 (mCall 45 [(tg 10)]), (some 11), none, 5, []⟩,
  ⟨CI.pure (pBuild [(.int .i64 0), (.int .i64 0), (.int .i64 0), (.int .u64 0), (.bool false), (.bool false)] [(0, 1, (cv (.int .i64 1))), (1, 1, (tg 8)), (2, 1, (tg 11)), (4, 1, (cv (.bool true)))]), (some 12), none, 6, []⟩,
  ⟨CI.mem 1 (mAlloc [(.int .i64 0), (.int .i64 0), (.int .i64 0), (.int .u64 0), (.bool false), (.bool false)]), (some 5), none, 7, []⟩,
  ⟨CI.mem 3 (mStore 6 (tg 5) (tg 12)), none, none, 8, []⟩]
@[simp] def o_h_Machine_pair_2_ap := das_rule (c := o_h_Machine_pair_2) rfl
def o_h_Machine_pair_3 : List IS := [ip 13 (pMov (tg 0)),
  ip 14 (pNilck (tg 13)),
  ip 15 (pFaddr 12 (tg 14)),
  il 16 (tg 15) (mLoad1 (tg 15))]
@[simp] def o_h_Machine_pair_3_ap := ops_rule (c := o_h_Machine_pair_3) rfl
def o_h_Machine_pair_4 : List DA := [⟨CI.pure (pFaddr 7 (tg 3)), (some 17), none, 0, []⟩,
  ⟨CI.load (tg 17) (mLoad1 (tg 17)), (some 18), none, 1, []⟩,
  ⟨CI.mem 3 (mCall 46 [(tg 18)]), (some 19), none, 2, []⟩,
  ⟨CI.pure (pFaddr 5 (tg 3)), (some 20), none, 3, []⟩,
  ⟨CI.load (tg 20) (mLoad1 (tg 20)), (some 21), none, 4, [2]⟩,
  ⟨CI.pure (pMov (tg 0)), (some 22), none, 5, []⟩,
  ⟨CI.pure (pNilck (tg 22)), (some 23), none, 6, []⟩,
  ⟨CI.pure (pFaddr 3 (tg 23)), (some 24), none, 7, []⟩,
  ⟨CI.load (tg 24) (mLoad1 (tg 24)), (some 25), none, 8, [2]⟩,
  ⟨CI.mem 3 (mCall 22 [(tg 21), (tg 25)]), (some 26), none, 9, []⟩,
  ⟨CI.pure (pFaddr 0 (tg 5)), (some 27), none, 10, []⟩,
  ⟨CI.mem 3 (mStore 1 (tg 27) (cv (.int .i64 2))), none, none, 11, []⟩,
  ⟨CI.pure (pFaddr 2 (tg 5)), (some 28), none, 12, []⟩,
  ⟨CI.mem 3 (mStore 1 (tg 28) (tg 19)), none, none, 13, []⟩,
  ⟨CI.pure (pFaddr 3 (tg 5)), (some 29), none, 14, []⟩,
  ⟨CI.mem 3 (mStore 1 (tg 29) (tg 26)), none, none, 15, []⟩]
@[simp] def o_h_Machine_pair_4_ap := das_rule (c := o_h_Machine_pair_4) rfl
def o_h_Machine_pair_5 : List IS := [ip 30 (pFaddr 0 (tg 3)),
  il 31 (tg 30) (mLoad1 (tg 30))]
@[simp] def o_h_Machine_pair_5_ap := ops_rule (c := o_h_Machine_pair_5) rfl
def o_h_Machine_pair_6 : List IS := [ip 33 (pBin .eql (tg 31) (cv (.int .i64 5))),
  ip 32 (pMov (tg 33))]
@[simp] def o_h_Machine_pair_6_ap := ops_rule (c := o_h_Machine_pair_6) rfl
def o_h_Machine_pair_7 : List DA := [⟨CI.pure (pFaddr 3 (tg 5)), (some 34), none, 0, []⟩,
  ⟨CI.load (tg 34) (mLoad1 (tg 34)), (some 35), none, 1, []⟩,
  ⟨CI.pure (pMov (tg 0)), (some 36), none, 2, []⟩,
  ⟨CI.pure (pNilck (tg 36)), (some 37), none, 3, []⟩,
  ⟨CI.pure (pFaddr 11 (tg 37)), (some 38), none, 4, []⟩,
  ⟨CI.load (tg 38) (mLoad1 (tg 38)), (some 39), none, 5, []⟩,
  ⟨CI.pure (pBin .add (tg 35) (tg 39)), (some 40), none, 6, []⟩,
  ⟨CI.pure (pFaddr 3 (tg 5)), (some 41), none, 7, []⟩,
  ⟨CI.mem 3 (mStore 1 (tg 41) (tg 40)), none, none, 8, []⟩]
@[simp] def o_h_Machine_pair_7_ap := das_rule (c := o_h_Machine_pair_7) rfl
def o_h_Machine_pair_8 : List IS := [ip 43 (pBin .eql (tg 31) (cv (.int .i64 6))),
  ip 42 (pMov (tg 43))]
@[simp] def o_h_Machine_pair_8_ap := ops_rule (c := o_h_Machine_pair_8) rfl
def o_h_Machine_pair_9 : List DA := [⟨CI.pure (pFaddr 6 (tg 3)), (some 44), none, 0, []⟩,
  ⟨CI.load (tg 44) (mLoad1 (tg 44)), (some 45), none, 1, []⟩,
  ⟨CI.pure (pMov (tg 0)), (some 46), none, 2, []⟩,
  ⟨CI.pure (pNilck (tg 46)), (some 47), none, 3, []⟩,
  ⟨CI.pure (pFaddr 3 (tg 47)), (some 48), none, 4, []⟩,
  ⟨CI.load (tg 48) (mLoad1 (tg 48)), (some 49), none, 5, []⟩,
  ⟨CI.mem 3 (mCall 22 [(tg 45), (tg 49)]), (some 50), none, 6, []⟩,
  ⟨CI.pure (pFaddr 3 (tg 5)), (some 51), none, 7, []⟩,
  ⟨CI.mem 3 (mStore 1 (tg 51) (tg 50)), none, none, 8, []⟩]
@[simp] def o_h_Machine_pair_9_ap := das_rule (c := o_h_Machine_pair_9) rfl
def c_h_Machine_pair_1 : SC := sCond (tg 42) (sAny o_h_Machine_pair_9) sSkip
@[simp] def c_h_Machine_pair_1_ap := cond_rule (c := c_h_Machine_pair_1) rfl
def c_h_Machine_pair_2 : SC := sSeq (sReg (seqI o_h_Machine_pair_8)) c_h_Machine_pair_1
@[simp] def c_h_Machine_pair_2_ap := seq_rule (c := c_h_Machine_pair_2) rfl
def c_h_Machine_pair_3 : SC := sCond (tg 32) (sAny o_h_Machine_pair_7) c_h_Machine_pair_2
@[simp] def c_h_Machine_pair_3_ap := cond_rule (c := c_h_Machine_pair_3) rfl
def c_h_Machine_pair_4 : SC := sSeq (sReg (seqI o_h_Machine_pair_6)) c_h_Machine_pair_3
@[simp] def c_h_Machine_pair_4_ap := seq_rule (c := c_h_Machine_pair_4) rfl
def c_h_Machine_pair_5 : SC := sBlock 0 c_h_Machine_pair_4
@[simp] def c_h_Machine_pair_5_ap := block_rule (c := c_h_Machine_pair_5) rfl
def c_h_Machine_pair_6 : SC := sSeq (sReg (seqI o_h_Machine_pair_5)) c_h_Machine_pair_5
@[simp] def c_h_Machine_pair_6_ap := seq_rule (c := c_h_Machine_pair_6) rfl
def c_h_Machine_pair_7 : SC := sSeq (sAny o_h_Machine_pair_4) c_h_Machine_pair_6
@[simp] def c_h_Machine_pair_7_ap := seq_rule (c := c_h_Machine_pair_7) rfl
def c_h_Machine_pair_8 : SC := sCond (tg 16) c_h_Machine_pair_7 sSkip
@[simp] def c_h_Machine_pair_8_ap := cond_rule (c := c_h_Machine_pair_8) rfl
def c_h_Machine_pair_9 : SC := sSeq (sReg (seqI o_h_Machine_pair_3)) c_h_Machine_pair_8
@[simp] def c_h_Machine_pair_9_ap := seq_rule (c := c_h_Machine_pair_9) rfl
def o_h_Machine_pair_10 : List IS := [il 52 (tg 5) (mLoadN 6 (tg 5)),
  im0 3 (mStore 6 (tg 4) (tg 52))]
@[simp] def o_h_Machine_pair_10_ap := ops_rule (c := o_h_Machine_pair_10) rfl
def c_h_Machine_pair_10 : SC := sSeq (sReg (seqI o_h_Machine_pair_10)) sRet
@[simp] def c_h_Machine_pair_10_ap := seq_rule (c := c_h_Machine_pair_10) rfl
def c_h_Machine_pair_11 : SC := sSeq c_h_Machine_pair_9 c_h_Machine_pair_10
@[simp] def c_h_Machine_pair_11_ap := seq_rule (c := c_h_Machine_pair_11) rfl
def c_h_Machine_pair_12 : SC := sSeq (sAny o_h_Machine_pair_2) c_h_Machine_pair_11
@[simp] def c_h_Machine_pair_12_ap := seq_rule (c := c_h_Machine_pair_12) rfl
def c_h_Machine_pair_13 : SC := sSeq (sReg (seqI o_h_Machine_pair_1)) c_h_Machine_pair_12
@[simp] def c_h_Machine_pair_13_ap := seq_rule (c := c_h_Machine_pair_13) rfl
def d_h_Machine_pair : DFn := ⟨c_h_Machine_pair_13, 53, [.cell 4 6]⟩
theorem d_h_Machine_pair_ok : fnOf Try.prog 33 = some d_h_Machine_pair := by kernel_rfl
def o_h_Machine_fence_1 : List IS := [im 1 3 (mBox (tg 1)),
  im 1 4 (mAlloc [(.int .i64 0), (.int .i64 0), (.int .i64 0), (.int .u64 0), (.bool false), (.bool false)])]
@[simp] def o_h_Machine_fence_1_ap := ops_rule (c := o_h_Machine_fence_1) rfl
def o_h_Machine_fence_2 : List IS := [ip 5 (pFaddr 7 (tg 3)),
  il 6 (tg 5) (mLoad1 (tg 5)),
  ip 7 (pBuild [(.int .i64 0), (.int .i64 0), (.int .i64 0), (.int .u64 0), (.bool false), (.bool false)] [(0, 1, (cv (.int .i64 3))), (2, 1, (tg 6))]),
  im0 3 (mStore 6 (tg 4) (tg 7))]
@[simp] def o_h_Machine_fence_2_ap := ops_rule (c := o_h_Machine_fence_2) rfl
def c_h_Machine_fence_1 : SC := sSeq (sReg (seqI o_h_Machine_fence_2)) sRet
@[simp] def c_h_Machine_fence_1_ap := seq_rule (c := c_h_Machine_fence_1) rfl
def c_h_Machine_fence_2 : SC := sSeq (sReg (seqI o_h_Machine_fence_1)) c_h_Machine_fence_1
@[simp] def c_h_Machine_fence_2_ap := seq_rule (c := c_h_Machine_fence_2) rfl
def d_h_Machine_fence : DFn := ⟨c_h_Machine_fence_2, 8, [.cell 4 6]⟩
theorem d_h_Machine_fence_ok : fnOf Try.prog 34 = some d_h_Machine_fence := by kernel_rfl
def o_h_Machine_print_1 : List IS := [im 1 3 (mBox (tg 1)),
  im 1 4 (mAlloc [(.int .i64 0), (.int .i64 0), (.int .i64 0), (.int .u64 0), (.bool false), (.bool false)])]
@[simp] def o_h_Machine_print_1_ap := ops_rule (c := o_h_Machine_print_1) rfl
def o_h_Machine_print_2 : List DA := [⟨CI.pure (pFaddr 5 (tg 3)), (some 5), none, 0, []⟩,
  ⟨CI.load (tg 5) (mLoad1 (tg 5)), (some 6), none, 1, []⟩,
  ⟨CI.pure (pMov (tg 0)), (some 7), none, 2, []⟩,
  ⟨CI.pure (pNilck (tg 7)), (some 8), none, 3, []⟩,
  ⟨CI.pure (pFaddr 3 (tg 8)), (some 9), none, 4, []⟩,
  ⟨CI.load (tg 9) (mLoad1 (tg 9)), (some 10), none, 5, []⟩,
  ⟨CI.mem 3 (mCall 22 [(tg 6), (tg 10)]), (some 11), none, 6, []⟩,
  ⟨CI.pure (pBuild [(.int .i64 0), (.int .i64 0), (.int .i64 0), (.int .u64 0), (.bool false), (.bool false)] [(0, 1, (cv (.int .i64 4))), (3, 1, (tg 11))]), (some 12), none, 7, []⟩,
  ⟨CI.mem 3 (mStore 6 (tg 4) (tg 12)), none, none, 8, []⟩]
@[simp] def o_h_Machine_print_2_ap := das_rule (c := o_h_Machine_print_2) rfl
def c_h_Machine_print_1 : SC := sSeq (sAny o_h_Machine_print_2) sRet
@[simp] def c_h_Machine_print_1_ap := seq_rule (c := c_h_Machine_print_1) rfl
def c_h_Machine_print_2 : SC := sSeq (sReg (seqI o_h_Machine_print_1)) c_h_Machine_print_1
@[simp] def c_h_Machine_print_2_ap := seq_rule (c := c_h_Machine_print_2) rfl
def d_h_Machine_print : DFn := ⟨c_h_Machine_print_2, 13, [.cell 4 6]⟩
theorem d_h_Machine_print_ok : fnOf Try.prog 35 = some d_h_Machine_print := by kernel_rfl
def o_h_Machine_jump_1 : List IS := [im 1 3 (mBox (tg 1)),
  im 1 4 (mAlloc [(.int .i64 0), (.int .i64 0), (.int .i64 0), (.int .u64 0), (.bool false), (.bool false)])]
@[simp] def o_h_Machine_jump_1_ap := ops_rule (c := o_h_Machine_jump_1) rfl
def o_h_Machine_jump_2 : List IS := [ip 5 (pMov (tg 0)),
  ip 6 (pFaddr 8 (tg 3)),
  il 7 (tg 6) (mLoad1 (tg 6)),
  ip 8 (pNilck (tg 5)),
  ip 9 (pFaddr 2 (tg 8)),
  im0 3 (mStore 1 (tg 9) (tg 7))]
@[simp] def o_h_Machine_jump_2_ap := ops_rule (c := o_h_Machine_jump_2) rfl
def o_h_Machine_jump_3 : List IS := [ip 10 (pBuild [(.int .i64 0), (.int .i64 0), (.int .i64 0), (.int .u64 0), (.bool false), (.bool false)] []),
  im0 3 (mStore 6 (tg 4) (tg 10))]
@[simp] def o_h_Machine_jump_3_ap := ops_rule (c := o_h_Machine_jump_3) rfl
def c_h_Machine_jump_1 : SC := sSeq (sReg (seqI o_h_Machine_jump_3)) sRet
@[simp] def c_h_Machine_jump_1_ap := seq_rule (c := c_h_Machine_jump_1) rfl
def c_h_Machine_jump_2 : SC := sSeq (sReg (seqI o_h_Machine_jump_2)) c_h_Machine_jump_1
@[simp] def c_h_Machine_jump_2_ap := seq_rule (c := c_h_Machine_jump_2) rfl
def c_h_Machine_jump_3 : SC := sSeq (sReg (seqI o_h_Machine_jump_1)) c_h_Machine_jump_2
@[simp] def c_h_Machine_jump_3_ap := seq_rule (c := c_h_Machine_jump_3) rfl
def d_h_Machine_jump : DFn := ⟨c_h_Machine_jump_3, 11, [.cell 4 6]⟩
theorem d_h_Machine_jump_ok : fnOf Try.prog 36 = some d_h_Machine_jump := by kernel_rfl
def o_h_Machine_zero_1 : List IS := [im 1 3 (mBox (tg 1)),
  im 1 4 (mAlloc [(.int .i64 0), (.int .i64 0), (.int .i64 0), (.int .u64 0), (.bool false), (.bool false)])]
@[simp] def o_h_Machine_zero_1_ap := ops_rule (c := o_h_Machine_zero_1) rfl
def o_h_Machine_zero_2 : List IS := [ip 5 (pMov (tg 0)),
  ip 6 (pNilck (tg 5)),
  ip 7 (pFaddr 2 (tg 6)),
  il 8 (tg 7) (mLoad1 (tg 7)),
  ip 9 (pBin .add (tg 8) (cv (.int .i64 1))),
  ip 10 (pNilck (tg 5)),
  ip 11 (pFaddr 2 (tg 10)),
  im0 3 (mStore 1 (tg 11) (tg 9))]
@[simp] def o_h_Machine_zero_2_ap := ops_rule (c := o_h_Machine_zero_2) rfl
def o_h_Machine_zero_3 : List DA := [⟨CI.pure (pFaddr 5 (tg 3)), (some 12), none, 0, []⟩,
  ⟨CI.load (tg 12) (mLoad1 (tg 12)), (some 13), none, 1, []⟩,
  ⟨CI.pure (pMov (tg 0)), (some 14), none, 2, []⟩,
  ⟨CI.pure (pNilck (tg 14)), (some 15), none, 3, []⟩,
  ⟨CI.pure (pFaddr 3 (tg 15)), (some 16), none, 4, []⟩,
  ⟨CI.load (tg 16) (mLoad1 (tg 16)), (some 17), none, 5, []⟩,
  ⟨CI.mem 3 (mCall 22 [(tg 13), (tg 17)]), (some 18), none, 6, []⟩,
  ⟨CI.pure (pBin .eql (tg 18) (cv (.int .u64 0))), (some 19), none, 7, []⟩]
@[simp] def o_h_Machine_zero_3_ap := das_rule (c := o_h_Machine_zero_3) rfl
def o_h_Machine_zero_4 : List IS := [ip 20 (pMov (tg 0)),
  ip 21 (pFaddr 8 (tg 3)),
  il 22 (tg 21) (mLoad1 (tg 21)),
  ip 23 (pNilck (tg 20)),
  ip 24 (pFaddr 2 (tg 23)),
  im0 3 (mStore 1 (tg 24) (tg 22))]
@[simp] def o_h_Machine_zero_4_ap := ops_rule (c := o_h_Machine_zero_4) rfl
def c_h_Machine_zero_1 : SC := sCond (tg 19) (sReg (seqI o_h_Machine_zero_4)) sSkip
@[simp] def c_h_Machine_zero_1_ap := cond_rule (c := c_h_Machine_zero_1) rfl
def c_h_Machine_zero_2 : SC := sSeq (sAny o_h_Machine_zero_3) c_h_Machine_zero_1
@[simp] def c_h_Machine_zero_2_ap := seq_rule (c := c_h_Machine_zero_2) rfl
def o_h_Machine_zero_5 : List IS := [ip 25 (pBuild [(.int .i64 0), (.int .i64 0), (.int .i64 0), (.int .u64 0), (.bool false), (.bool false)] []),
  im0 3 (mStore 6 (tg 4) (tg 25))]
@[simp] def o_h_Machine_zero_5_ap := ops_rule (c := o_h_Machine_zero_5) rfl
def c_h_Machine_zero_3 : SC := sSeq (sReg (seqI o_h_Machine_zero_5)) sRet
@[simp] def c_h_Machine_zero_3_ap := seq_rule (c := c_h_Machine_zero_3) rfl
def c_h_Machine_zero_4 : SC := sSeq c_h_Machine_zero_2 c_h_Machine_zero_3
@[simp] def c_h_Machine_zero_4_ap := seq_rule (c := c_h_Machine_zero_4) rfl
def c_h_Machine_zero_5 : SC := sSeq (sReg (seqI o_h_Machine_zero_2)) c_h_Machine_zero_4
@[simp] def c_h_Machine_zero_5_ap := seq_rule (c := c_h_Machine_zero_5) rfl
def c_h_Machine_zero_6 : SC := sSeq (sReg (seqI o_h_Machine_zero_1)) c_h_Machine_zero_5
@[simp] def c_h_Machine_zero_6_ap := seq_rule (c := c_h_Machine_zero_6) rfl
def d_h_Machine_zero : DFn := ⟨c_h_Machine_zero_6, 26, [.cell 4 6]⟩
theorem d_h_Machine_zero_ok : fnOf Try.prog 37 = some d_h_Machine_zero := by kernel_rfl
def o_k_wholeAct_1 : List IS := [im 1 3 (mBox (tg 0)),
  im 1 4 (mBox (tg 1)),
  im 1 5 (mBox (tg 2)),
  ip 6 (pMov (cv (.bool false)))]
@[simp] def o_k_wholeAct_1_ap := ops_rule (c := o_k_wholeAct_1) rfl
def o_k_wholeAct_2 : List IS := [ip 8 (pFaddr 0 (tg 3)),
  il 9 (tg 8) (mLoad1 (tg 8)),
  ip 10 (pBin .lss (tg 9) (cv (.int .i64 1))),
  ip 11 (pMov (tg 10)),
  gd 11 false (some 12) (ip 12 (pFaddr 0 (tg 3))),
  gd 11 false (some 13) (il 13 (tg 12) (mLoad1 (tg 12))),
  gd 11 false (some 14) (ip 14 (pBin .gtr (tg 13) (cv (.int .i64 10)))),
  ip 15 (pPick (tg 11) (cv (.bool true)) (tg 14)),
  ip 16 (pMov (tg 15)),
  gd 16 false (some 17) (ip 17 (pFaddr 0 (tg 3))),
  gd 16 false (some 18) (il 18 (tg 17) (mLoad1 (tg 17))),
  gd 16 false (some 19) (ip 19 (pFaddr 7 (tg 3))),
  gd 16 false (some 20) (il 20 (tg 19) (mLoad1 (tg 19))),
  gd 16 false (some 21) (im 3 21 (mCall 59 [(tg 18), (tg 20)])),
  gd 16 false (some 22) (ip 22 (pUn .not (tg 21))),
  ip 23 (pPick (tg 16) (cv (.bool true)) (tg 22))]
@[simp] def o_k_wholeAct_2_ap := ops_rule (c := o_k_wholeAct_2) rfl
def o_k_wholeAct_3 : List IS := [ip 6 (pMov (cv (.bool false)))]
@[simp] def o_k_wholeAct_3_ap := ops_rule (c := o_k_wholeAct_3) rfl
def c_k_wholeAct_1 : SC := sSeq (sReg (seqI o_k_wholeAct_3)) sRet
@[simp] def c_k_wholeAct_1_ap := seq_rule (c := c_k_wholeAct_1) rfl
def c_k_wholeAct_2 : SC := sCond (tg 23) c_k_wholeAct_1 sSkip
@[simp] def c_k_wholeAct_2_ap := cond_rule (c := c_k_wholeAct_2) rfl
def c_k_wholeAct_3 : SC := sSeq (sReg (seqI o_k_wholeAct_2)) c_k_wholeAct_2
@[simp] def c_k_wholeAct_3_ap := seq_rule (c := c_k_wholeAct_3) rfl
def o_k_wholeAct_4 : List IS := [ip 24 (pFaddr 0 (tg 3)),
  il 25 (tg 24) (mLoad1 (tg 24)),
  im 3 26 (mCall 60 [(tg 25)]),
  im 1 7 (mAlloc [(.bool false), (.bool false), (.bool false), (.bool false), (.bool false)]),
  im0 3 (mStore 5 (tg 7) (tg 26))]
@[simp] def o_k_wholeAct_4_ap := ops_rule (c := o_k_wholeAct_4) rfl
def o_k_wholeAct_5 : List IS := [ip 28 (pFaddr 0 (tg 7)),
  il 29 (tg 28) (mLoad1 (tg 28)),
  ip 30 (pMov (tg 29)),
  gd 30 true (some 31) (ip 31 (pFaddr 1 (tg 3))),
  gd 30 true (some 32) (il 32 (tg 31) (mLoad1 (tg 31))),
  gd 30 true (some 33) (ip 33 (pBin .lss (tg 32) (cv (.int .i64 0)))),
  gd 30 true (some 34) (ip 34 (pMov (tg 33))),
  gd 34 false (some 35) (ip 35 (pFaddr 1 (tg 3))),
  gd 34 false (some 36) (il 36 (tg 35) (mLoad1 (tg 35))),
  gd 34 false (some 37) (ip 37 (pFaddr 0 (tg 5))),
  gd 34 false (some 38) (il 38 (tg 37) (mLoad1 (tg 37))),
  gd 34 false (some 39) (ip 39 (pBin .geq (tg 36) (tg 38))),
  gd 30 true (some 40) (ip 40 (pPick (tg 34) (cv (.bool true)) (tg 39))),
  ip 41 (pPick (tg 30) (tg 40) (cv (.bool false))),
  ip 27 (pMov (tg 41))]
@[simp] def o_k_wholeAct_5_ap := ops_rule (c := o_k_wholeAct_5) rfl
def o_k_wholeAct_6 : List IS := [ip 42 (pFaddr 0 (tg 7)),
  il 43 (tg 42) (mLoad1 (tg 42)),
  ip 44 (pUn .not (tg 43)),
  ip 45 (pMov (tg 44)),
  gd 45 true (some 46) (ip 46 (pFaddr 1 (tg 3))),
  gd 45 true (some 47) (il 47 (tg 46) (mLoad1 (tg 46))),
  gd 45 true (some 48) (ip 48 (pBin .neq (tg 47) (cv (.int .i64 0)))),
  ip 49 (pPick (tg 45) (tg 48) (cv (.bool false))),
  ip 27 (pMov (tg 49))]
@[simp] def o_k_wholeAct_6_ap := ops_rule (c := o_k_wholeAct_6) rfl
def c_k_wholeAct_4 : SC := sCond (tg 27) sSkip (sReg (seqI o_k_wholeAct_6))
@[simp] def c_k_wholeAct_4_ap := cond_rule (c := c_k_wholeAct_4) rfl
def c_k_wholeAct_5 : SC := sSeq (sReg (seqI o_k_wholeAct_5)) c_k_wholeAct_4
@[simp] def c_k_wholeAct_5_ap := seq_rule (c := c_k_wholeAct_5) rfl
def o_k_wholeAct_7 : List IS := [ip 6 (pMov (cv (.bool false)))]
@[simp] def o_k_wholeAct_7_ap := ops_rule (c := o_k_wholeAct_7) rfl
def c_k_wholeAct_6 : SC := sSeq (sReg (seqI o_k_wholeAct_7)) sRet
@[simp] def c_k_wholeAct_6_ap := seq_rule (c := c_k_wholeAct_6) rfl
def o_k_wholeAct_8 : List IS := [ip 51 (pFaddr 1 (tg 7)),
  il 52 (tg 51) (mLoad1 (tg 51)),
  ip 53 (pMov (tg 52)),
  gd 53 true (some 54) (il 54 (tg 3) (mLoadN 11 (tg 3))),
  gd 53 true (some 55) (il 55 (tg 4) (mLoadN 2 (tg 4))),
  gd 53 true (some 56) (ip 56 (pFaddr 0 (tg 5))),
  gd 53 true (some 57) (il 57 (tg 56) (mLoad1 (tg 56))),
  gd 53 true (some 58) (im 3 58 (mCall 61 [(tg 54), (tg 55), (tg 57)])),
  gd 53 true (some 59) (ip 59 (pUn .not (tg 58))),
  ip 60 (pPick (tg 53) (tg 59) (cv (.bool false))),
  ip 50 (pMov (tg 60))]
@[simp] def o_k_wholeAct_8_ap := ops_rule (c := o_k_wholeAct_8) rfl
def o_k_wholeAct_9 : List IS := [ip 61 (pFaddr 1 (tg 7)),
  il 62 (tg 61) (mLoad1 (tg 61)),
  ip 63 (pUn .not (tg 62)),
  ip 64 (pMov (tg 63)),
  gd 64 true (some 65) (ip 65 (pFaddr 2 (tg 3))),
  gd 64 true (some 66) (il 66 (tg 65) (mLoad1 (tg 65))),
  gd 64 true (some 67) (ip 67 (pBin .neq (tg 66) (cv (.int .i64 0)))),
  gd 64 true (some 68) (ip 68 (pMov (tg 67))),
  gd 68 false (some 69) (ip 69 (pFaddr 3 (tg 3))),
  gd 68 false (some 70) (il 70 (tg 69) (mLoad1 (tg 69))),
  gd 68 false (some 71) (ip 71 (pBin .neq (tg 70) (cv (.int .i64 0)))),
  gd 64 true (some 72) (ip 72 (pPick (tg 68) (cv (.bool true)) (tg 71))),
  gd 64 true (some 73) (ip 73 (pMov (tg 72))),
  gd 73 false (some 74) (ip 74 (pFaddr 4 (tg 3))),
  gd 73 false (some 75) (il 75 (tg 74) (mLoad1 (tg 74))),
  gd 73 false (some 76) (ip 76 (pLen (tg 75))),
  gd 73 false (some 77) (ip 77 (pBin .gtr (tg 76) (cv (.int .i64 0)))),
  gd 64 true (some 78) (ip 78 (pPick (tg 73) (cv (.bool true)) (tg 77))),
  ip 79 (pPick (tg 64) (tg 78) (cv (.bool false))),
  ip 50 (pMov (tg 79))]
@[simp] def o_k_wholeAct_9_ap := ops_rule (c := o_k_wholeAct_9) rfl
def c_k_wholeAct_7 : SC := sCond (tg 50) sSkip (sReg (seqI o_k_wholeAct_9))
@[simp] def c_k_wholeAct_7_ap := cond_rule (c := c_k_wholeAct_7) rfl
def c_k_wholeAct_8 : SC := sSeq (sReg (seqI o_k_wholeAct_8)) c_k_wholeAct_7
@[simp] def c_k_wholeAct_8_ap := seq_rule (c := c_k_wholeAct_8) rfl
def o_k_wholeAct_10 : List IS := [ip 6 (pMov (cv (.bool false)))]
@[simp] def o_k_wholeAct_10_ap := ops_rule (c := o_k_wholeAct_10) rfl
def c_k_wholeAct_9 : SC := sSeq (sReg (seqI o_k_wholeAct_10)) sRet
@[simp] def c_k_wholeAct_9_ap := seq_rule (c := c_k_wholeAct_9) rfl
def o_k_wholeAct_11 : List IS := [ip 81 (pFaddr 2 (tg 7)),
  il 82 (tg 81) (mLoad1 (tg 81)),
  ip 83 (pFaddr 5 (tg 3)),
  il 84 (tg 83) (mLoad1 (tg 83)),
  ip 85 (pLen (tg 84)),
  ip 86 (pBin .gtr (tg 85) (cv (.int .i64 0))),
  ip 87 (pEqB true (tg 82) (tg 86)),
  ip 80 (pMov (tg 87))]
@[simp] def o_k_wholeAct_11_ap := ops_rule (c := o_k_wholeAct_11) rfl
def o_k_wholeAct_12 : List IS := [ip 88 (pFaddr 3 (tg 7)),
  il 89 (tg 88) (mLoad1 (tg 88)),
  ip 90 (pFaddr 6 (tg 3)),
  il 91 (tg 90) (mLoad1 (tg 90)),
  ip 92 (pLen (tg 91)),
  ip 93 (pBin .gtr (tg 92) (cv (.int .i64 0))),
  ip 94 (pEqB true (tg 89) (tg 93)),
  ip 80 (pMov (tg 94))]
@[simp] def o_k_wholeAct_12_ap := ops_rule (c := o_k_wholeAct_12) rfl
def o_k_wholeAct_13 : List IS := [ip 95 (pFaddr 2 (tg 7)),
  il 96 (tg 95) (mLoad1 (tg 95)),
  ip 97 (pMov (tg 96)),
  gd 97 true (some 98) (ip 98 (pFaddr 5 (tg 3))),
  gd 97 true (some 99) (il 99 (tg 98) (mLoad1 (tg 98))),
  gd 97 true (some 100) (ip 100 (pFaddr 0 (tg 5))),
  gd 97 true (some 101) (il 101 (tg 100) (mLoad1 (tg 100))),
  gd 97 true (some 102) (im 3 102 (mCall 62 [(tg 99), (tg 101)])),
  gd 97 true (some 103) (ip 103 (pUn .not (tg 102))),
  ip 104 (pPick (tg 97) (tg 103) (cv (.bool false))),
  ip 80 (pMov (tg 104))]
@[simp] def o_k_wholeAct_13_ap := ops_rule (c := o_k_wholeAct_13) rfl
def o_k_wholeAct_14 : List IS := [ip 105 (pFaddr 3 (tg 7)),
  il 106 (tg 105) (mLoad1 (tg 105)),
  ip 107 (pMov (tg 106)),
  gd 107 true (some 108) (ip 108 (pFaddr 6 (tg 3))),
  gd 107 true (some 109) (il 109 (tg 108) (mLoad1 (tg 108))),
  gd 107 true (some 110) (ip 110 (pFaddr 0 (tg 5))),
  gd 107 true (some 111) (il 111 (tg 110) (mLoad1 (tg 110))),
  gd 107 true (some 112) (im 3 112 (mCall 62 [(tg 109), (tg 111)])),
  gd 107 true (some 113) (ip 113 (pUn .not (tg 112))),
  ip 114 (pPick (tg 107) (tg 113) (cv (.bool false))),
  ip 80 (pMov (tg 114))]
@[simp] def o_k_wholeAct_14_ap := ops_rule (c := o_k_wholeAct_14) rfl
def c_k_wholeAct_10 : SC := sCond (tg 80) sSkip (sReg (seqI o_k_wholeAct_14))
@[simp] def c_k_wholeAct_10_ap := cond_rule (c := c_k_wholeAct_10) rfl
def c_k_wholeAct_11 : SC := sSeq (sReg (seqI o_k_wholeAct_13)) c_k_wholeAct_10
@[simp] def c_k_wholeAct_11_ap := seq_rule (c := c_k_wholeAct_11) rfl
def c_k_wholeAct_12 : SC := sCond (tg 80) sSkip c_k_wholeAct_11
@[simp] def c_k_wholeAct_12_ap := cond_rule (c := c_k_wholeAct_12) rfl
def c_k_wholeAct_13 : SC := sSeq (sReg (seqI o_k_wholeAct_12)) c_k_wholeAct_12
@[simp] def c_k_wholeAct_13_ap := seq_rule (c := c_k_wholeAct_13) rfl
def c_k_wholeAct_14 : SC := sCond (tg 80) sSkip c_k_wholeAct_13
@[simp] def c_k_wholeAct_14_ap := cond_rule (c := c_k_wholeAct_14) rfl
def c_k_wholeAct_15 : SC := sSeq (sReg (seqI o_k_wholeAct_11)) c_k_wholeAct_14
@[simp] def c_k_wholeAct_15_ap := seq_rule (c := c_k_wholeAct_15) rfl
def o_k_wholeAct_15 : List IS := [ip 6 (pMov (cv (.bool false)))]
@[simp] def o_k_wholeAct_15_ap := ops_rule (c := o_k_wholeAct_15) rfl
def c_k_wholeAct_16 : SC := sSeq (sReg (seqI o_k_wholeAct_15)) sRet
@[simp] def c_k_wholeAct_16_ap := seq_rule (c := c_k_wholeAct_16) rfl
def o_k_wholeAct_16 : List IS := [ip 116 (pFaddr 4 (tg 7)),
  il 117 (tg 116) (mLoad1 (tg 116)),
  ip 118 (pMov (tg 117)),
  gd 118 true (some 119) (ip 119 (pFaddr 8 (tg 3))),
  gd 118 true (some 120) (il 120 (tg 119) (mLoad1 (tg 119))),
  gd 118 true (some 121) (ip 121 (pBin .lss (tg 120) (cv (.int .i64 0)))),
  gd 118 true (some 122) (ip 122 (pMov (tg 121))),
  gd 122 false (some 123) (ip 123 (pFaddr 8 (tg 3))),
  gd 122 false (some 124) (il 124 (tg 123) (mLoad1 (tg 123))),
  gd 122 false (some 125) (ip 125 (pFaddr 1 (tg 5))),
  gd 122 false (some 126) (il 126 (tg 125) (mLoad1 (tg 125))),
  gd 122 false (some 127) (ip 127 (pLen (tg 126))),
  gd 122 false (some 128) (ip 128 (pBin .gtr (tg 124) (tg 127))),
  gd 118 true (some 129) (ip 129 (pPick (tg 122) (cv (.bool true)) (tg 128))),
  ip 130 (pPick (tg 118) (tg 129) (cv (.bool false))),
  ip 115 (pMov (tg 130))]
@[simp] def o_k_wholeAct_16_ap := ops_rule (c := o_k_wholeAct_16) rfl
def o_k_wholeAct_17 : List IS := [ip 131 (pFaddr 4 (tg 7)),
  il 132 (tg 131) (mLoad1 (tg 131)),
  ip 133 (pUn .not (tg 132)),
  ip 134 (pMov (tg 133)),
  gd 134 true (some 135) (ip 135 (pFaddr 8 (tg 3))),
  gd 134 true (some 136) (il 136 (tg 135) (mLoad1 (tg 135))),
  gd 134 true (some 137) (ip 137 (pBin .neq (tg 136) (cv (.int .i64 0)))),
  ip 138 (pPick (tg 134) (tg 137) (cv (.bool false))),
  ip 115 (pMov (tg 138))]
@[simp] def o_k_wholeAct_17_ap := ops_rule (c := o_k_wholeAct_17) rfl
def c_k_wholeAct_17 : SC := sCond (tg 115) sSkip (sReg (seqI o_k_wholeAct_17))
@[simp] def c_k_wholeAct_17_ap := cond_rule (c := c_k_wholeAct_17) rfl
def c_k_wholeAct_18 : SC := sSeq (sReg (seqI o_k_wholeAct_16)) c_k_wholeAct_17
@[simp] def c_k_wholeAct_18_ap := seq_rule (c := c_k_wholeAct_18) rfl
def o_k_wholeAct_18 : List IS := [ip 6 (pMov (cv (.bool false)))]
@[simp] def o_k_wholeAct_18_ap := ops_rule (c := o_k_wholeAct_18) rfl
def c_k_wholeAct_19 : SC := sSeq (sReg (seqI o_k_wholeAct_18)) sRet
@[simp] def c_k_wholeAct_19_ap := seq_rule (c := c_k_wholeAct_19) rfl
def c_k_wholeAct_20 : SC := sCond (tg 115) c_k_wholeAct_19 sSkip
@[simp] def c_k_wholeAct_20_ap := cond_rule (c := c_k_wholeAct_20) rfl
def c_k_wholeAct_21 : SC := sSeq c_k_wholeAct_18 c_k_wholeAct_20
@[simp] def c_k_wholeAct_21_ap := seq_rule (c := c_k_wholeAct_21) rfl
def c_k_wholeAct_22 : SC := sCond (tg 80) c_k_wholeAct_16 c_k_wholeAct_21
@[simp] def c_k_wholeAct_22_ap := cond_rule (c := c_k_wholeAct_22) rfl
def c_k_wholeAct_23 : SC := sSeq c_k_wholeAct_15 c_k_wholeAct_22
@[simp] def c_k_wholeAct_23_ap := seq_rule (c := c_k_wholeAct_23) rfl
def c_k_wholeAct_24 : SC := sCond (tg 50) c_k_wholeAct_9 c_k_wholeAct_23
@[simp] def c_k_wholeAct_24_ap := cond_rule (c := c_k_wholeAct_24) rfl
def c_k_wholeAct_25 : SC := sSeq c_k_wholeAct_8 c_k_wholeAct_24
@[simp] def c_k_wholeAct_25_ap := seq_rule (c := c_k_wholeAct_25) rfl
def c_k_wholeAct_26 : SC := sCond (tg 27) c_k_wholeAct_6 c_k_wholeAct_25
@[simp] def c_k_wholeAct_26_ap := cond_rule (c := c_k_wholeAct_26) rfl
def c_k_wholeAct_27 : SC := sSeq c_k_wholeAct_5 c_k_wholeAct_26
@[simp] def c_k_wholeAct_27_ap := seq_rule (c := c_k_wholeAct_27) rfl
def c_k_wholeAct_28 : SC := sBlock 0 c_k_wholeAct_27
@[simp] def c_k_wholeAct_28_ap := block_rule (c := c_k_wholeAct_28) rfl
def o_k_wholeAct_19 : List IS := [ip 6 (pMov (cv (.bool true)))]
@[simp] def o_k_wholeAct_19_ap := ops_rule (c := o_k_wholeAct_19) rfl
def c_k_wholeAct_29 : SC := sSeq (sReg (seqI o_k_wholeAct_19)) sRet
@[simp] def c_k_wholeAct_29_ap := seq_rule (c := c_k_wholeAct_29) rfl
def c_k_wholeAct_30 : SC := sSeq c_k_wholeAct_28 c_k_wholeAct_29
@[simp] def c_k_wholeAct_30_ap := seq_rule (c := c_k_wholeAct_30) rfl
def c_k_wholeAct_31 : SC := sSeq (sReg (seqI o_k_wholeAct_4)) c_k_wholeAct_30
@[simp] def c_k_wholeAct_31_ap := seq_rule (c := c_k_wholeAct_31) rfl
def c_k_wholeAct_32 : SC := sSeq c_k_wholeAct_3 c_k_wholeAct_31
@[simp] def c_k_wholeAct_32_ap := seq_rule (c := c_k_wholeAct_32) rfl
def c_k_wholeAct_33 : SC := sSeq (sReg (seqI o_k_wholeAct_1)) c_k_wholeAct_32
@[simp] def c_k_wholeAct_33_ap := seq_rule (c := c_k_wholeAct_33) rfl
def d_k_wholeAct : DFn := ⟨c_k_wholeAct_33, 139, [.t 6]⟩
theorem d_k_wholeAct_ok : fnOf Try.prog 40 = some d_k_wholeAct := by kernel_rfl
def o_h_one_1 : List IS := [ip 4 (pMov (cv (.int .u64 0)))]
@[simp] def o_h_one_1_ap := ops_rule (c := o_h_one_1) rfl
def o_h_one_2 : List IS := [ip 5 (pMov (tg 0))]
@[simp] def o_h_one_2_ap := ops_rule (c := o_h_one_2) rfl
def o_h_one_3 : List IS := [ip 7 (pBin .eql (tg 5) (cv (.int .i64 3))),
  ip 6 (pMov (tg 7))]
@[simp] def o_h_one_3_ap := ops_rule (c := o_h_one_3) rfl
def o_h_one_4 : List IS := [ip 8 (pMov (tg 1)),
  ip 9 (pUn .neg (tg 8)),
  ip 4 (pMov (tg 9))]
@[simp] def o_h_one_4_ap := ops_rule (c := o_h_one_4) rfl
def c_h_one_1 : SC := sSeq (sReg (seqI o_h_one_4)) sRet
@[simp] def c_h_one_1_ap := seq_rule (c := c_h_one_1) rfl
def o_h_one_5 : List IS := [ip 11 (pBin .eql (tg 5) (cv (.int .i64 4))),
  ip 10 (pMov (tg 11))]
@[simp] def o_h_one_5_ap := ops_rule (c := o_h_one_5) rfl
def o_h_one_6 : List IS := [ip 12 (pMov (tg 1)),
  ip 13 (pUn .xor (tg 12)),
  ip 4 (pMov (tg 13))]
@[simp] def o_h_one_6_ap := ops_rule (c := o_h_one_6) rfl
def c_h_one_2 : SC := sSeq (sReg (seqI o_h_one_6)) sRet
@[simp] def c_h_one_2_ap := seq_rule (c := c_h_one_2) rfl
def c_h_one_3 : SC := sCond (tg 10) c_h_one_2 sSkip
@[simp] def c_h_one_3_ap := cond_rule (c := c_h_one_3) rfl
def c_h_one_4 : SC := sSeq (sReg (seqI o_h_one_5)) c_h_one_3
@[simp] def c_h_one_4_ap := seq_rule (c := c_h_one_4) rfl
def c_h_one_5 : SC := sCond (tg 6) c_h_one_1 c_h_one_4
@[simp] def c_h_one_5_ap := cond_rule (c := c_h_one_5) rfl
def c_h_one_6 : SC := sSeq (sReg (seqI o_h_one_3)) c_h_one_5
@[simp] def c_h_one_6_ap := seq_rule (c := c_h_one_6) rfl
def c_h_one_7 : SC := sBlock 0 c_h_one_6
@[simp] def c_h_one_7_ap := block_rule (c := c_h_one_7) rfl
def c_h_one_8 : SC := sSeq (sReg (seqI o_h_one_2)) c_h_one_7
@[simp] def c_h_one_8_ap := seq_rule (c := c_h_one_8) rfl
def o_h_one_7 : List IS := [ip 14 (pMov (tg 1)),
  ip 15 (pBin .eql (tg 14) (cv (.int .u64 0))),
  im 3 16 (mCall 63 [(tg 15)]),
  ip 4 (pMov (tg 16))]
@[simp] def o_h_one_7_ap := ops_rule (c := o_h_one_7) rfl
def c_h_one_9 : SC := sSeq (sReg (seqI o_h_one_7)) sRet
@[simp] def c_h_one_9_ap := seq_rule (c := c_h_one_9) rfl
def c_h_one_10 : SC := sSeq c_h_one_8 c_h_one_9
@[simp] def c_h_one_10_ap := seq_rule (c := c_h_one_10) rfl
def c_h_one_11 : SC := sSeq (sReg (seqI o_h_one_1)) c_h_one_10
@[simp] def c_h_one_11_ap := seq_rule (c := c_h_one_11) rfl
def d_h_one : DFn := ⟨c_h_one_11, 17, [.t 4]⟩
theorem d_h_one_ok : fnOf Try.prog 41 = some d_h_one := by kernel_rfl
def o_h_two_1 : List IS := [ip 6 (pMov (cv (.int .u64 0)))]
@[simp] def o_h_two_1_ap := ops_rule (c := o_h_two_1) rfl
def o_h_two_2 : List IS := [ip 7 (pMov (tg 0))]
@[simp] def o_h_two_2_ap := ops_rule (c := o_h_two_2) rfl
def o_h_two_3 : List IS := [ip 9 (pBin .eql (tg 7) (cv (.int .i64 6))),
  ip 8 (pMov (tg 9))]
@[simp] def o_h_two_3_ap := ops_rule (c := o_h_two_3) rfl
def o_h_two_4 : List IS := [ip 10 (pMov (tg 1)),
  ip 11 (pMov (tg 2)),
  ip 12 (pBin .mul (tg 10) (tg 11)),
  ip 6 (pMov (tg 12))]
@[simp] def o_h_two_4_ap := ops_rule (c := o_h_two_4) rfl
def c_h_two_1 : SC := sSeq (sReg (seqI o_h_two_4)) sRet
@[simp] def c_h_two_1_ap := seq_rule (c := c_h_two_1) rfl
def o_h_two_5 : List IS := [ip 14 (pBin .eql (tg 7) (cv (.int .i64 7))),
  ip 13 (pMov (tg 14))]
@[simp] def o_h_two_5_ap := ops_rule (c := o_h_two_5) rfl
def o_h_two_6 : List IS := [ip 15 (pMov (tg 1)),
  ip 16 (pMov (tg 2)),
  ip 17 (pBin .add (tg 15) (tg 16)),
  ip 6 (pMov (tg 17))]
@[simp] def o_h_two_6_ap := ops_rule (c := o_h_two_6) rfl
def c_h_two_2 : SC := sSeq (sReg (seqI o_h_two_6)) sRet
@[simp] def c_h_two_2_ap := seq_rule (c := c_h_two_2) rfl
def o_h_two_7 : List IS := [ip 19 (pBin .eql (tg 7) (cv (.int .i64 8))),
  ip 18 (pMov (tg 19))]
@[simp] def o_h_two_7_ap := ops_rule (c := o_h_two_7) rfl
def o_h_two_8 : List IS := [ip 20 (pMov (tg 1)),
  ip 21 (pMov (tg 2)),
  ip 22 (pBin .sub (tg 20) (tg 21)),
  ip 6 (pMov (tg 22))]
@[simp] def o_h_two_8_ap := ops_rule (c := o_h_two_8) rfl
def c_h_two_3 : SC := sSeq (sReg (seqI o_h_two_8)) sRet
@[simp] def c_h_two_3_ap := seq_rule (c := c_h_two_3) rfl
def o_h_two_9 : List IS := [ip 24 (pBin .eql (tg 7) (cv (.int .i64 9))),
  ip 23 (pMov (tg 24))]
@[simp] def o_h_two_9_ap := ops_rule (c := o_h_two_9) rfl
def o_h_two_10 : List IS := [ip 25 (pMov (tg 1)),
  ip 26 (pMov (tg 2)),
  ip 27 (pBin .and (tg 26) (cv (.int .u64 63))),
  ip 28 (pShift .shl (tg 25) (tg 27)),
  ip 6 (pMov (tg 28))]
@[simp] def o_h_two_10_ap := ops_rule (c := o_h_two_10) rfl
def c_h_two_4 : SC := sSeq (sReg (seqI o_h_two_10)) sRet
@[simp] def c_h_two_4_ap := seq_rule (c := c_h_two_4) rfl
def o_h_two_11 : List IS := [ip 30 (pBin .eql (tg 7) (cv (.int .i64 10))),
  ip 29 (pMov (tg 30))]
@[simp] def o_h_two_11_ap := ops_rule (c := o_h_two_11) rfl
def o_h_two_12 : List IS := [ip 31 (pMov (tg 1)),
  ip 32 (pMov (tg 2)),
  ip 33 (pBin .and (tg 32) (cv (.int .u64 63))),
  ip 34 (pShift .shr (tg 31) (tg 33)),
  ip 6 (pMov (tg 34))]
@[simp] def o_h_two_12_ap := ops_rule (c := o_h_two_12) rfl
def c_h_two_5 : SC := sSeq (sReg (seqI o_h_two_12)) sRet
@[simp] def c_h_two_5_ap := seq_rule (c := c_h_two_5) rfl
def o_h_two_13 : List IS := [ip 36 (pBin .eql (tg 7) (cv (.int .i64 11))),
  ip 35 (pMov (tg 36))]
@[simp] def o_h_two_13_ap := ops_rule (c := o_h_two_13) rfl
def o_h_two_14 : List IS := [ip 37 (pMov (tg 1)),
  ip 38 (pMov (tg 2)),
  ip 39 (pBin .and (tg 37) (tg 38)),
  ip 6 (pMov (tg 39))]
@[simp] def o_h_two_14_ap := ops_rule (c := o_h_two_14) rfl
def c_h_two_6 : SC := sSeq (sReg (seqI o_h_two_14)) sRet
@[simp] def c_h_two_6_ap := seq_rule (c := c_h_two_6) rfl
def o_h_two_15 : List IS := [ip 41 (pBin .eql (tg 7) (cv (.int .i64 12))),
  ip 40 (pMov (tg 41))]
@[simp] def o_h_two_15_ap := ops_rule (c := o_h_two_15) rfl
def o_h_two_16 : List IS := [ip 42 (pMov (tg 1)),
  ip 43 (pMov (tg 2)),
  ip 44 (pBin .xor (tg 42) (tg 43)),
  ip 6 (pMov (tg 44))]
@[simp] def o_h_two_16_ap := ops_rule (c := o_h_two_16) rfl
def c_h_two_7 : SC := sSeq (sReg (seqI o_h_two_16)) sRet
@[simp] def c_h_two_7_ap := seq_rule (c := c_h_two_7) rfl
def o_h_two_17 : List IS := [ip 46 (pBin .eql (tg 7) (cv (.int .i64 13))),
  ip 45 (pMov (tg 46))]
@[simp] def o_h_two_17_ap := ops_rule (c := o_h_two_17) rfl
def o_h_two_18 : List IS := [ip 47 (pMov (tg 1)),
  ip 48 (pMov (tg 2)),
  ip 49 (pBin .or (tg 47) (tg 48)),
  ip 6 (pMov (tg 49))]
@[simp] def o_h_two_18_ap := ops_rule (c := o_h_two_18) rfl
def c_h_two_8 : SC := sSeq (sReg (seqI o_h_two_18)) sRet
@[simp] def c_h_two_8_ap := seq_rule (c := c_h_two_8) rfl
def o_h_two_19 : List IS := [ip 51 (pBin .eql (tg 7) (cv (.int .i64 14))),
  ip 50 (pMov (tg 51))]
@[simp] def o_h_two_19_ap := ops_rule (c := o_h_two_19) rfl
def o_h_two_20 : List IS := [ip 52 (pMov (tg 1)),
  ip 53 (pMov (tg 2)),
  ip 54 (pBin .eql (tg 52) (tg 53)),
  im 3 55 (mCall 63 [(tg 54)]),
  ip 6 (pMov (tg 55))]
@[simp] def o_h_two_20_ap := ops_rule (c := o_h_two_20) rfl
def c_h_two_9 : SC := sSeq (sReg (seqI o_h_two_20)) sRet
@[simp] def c_h_two_9_ap := seq_rule (c := c_h_two_9) rfl
def o_h_two_21 : List IS := [ip 57 (pBin .eql (tg 7) (cv (.int .i64 15))),
  ip 56 (pMov (tg 57))]
@[simp] def o_h_two_21_ap := ops_rule (c := o_h_two_21) rfl
def o_h_two_22 : List IS := [ip 58 (pMov (tg 1)),
  ip 59 (pMov (tg 2)),
  ip 60 (pBin .neq (tg 58) (tg 59)),
  im 3 61 (mCall 63 [(tg 60)]),
  ip 6 (pMov (tg 61))]
@[simp] def o_h_two_22_ap := ops_rule (c := o_h_two_22) rfl
def c_h_two_10 : SC := sSeq (sReg (seqI o_h_two_22)) sRet
@[simp] def c_h_two_10_ap := seq_rule (c := c_h_two_10) rfl
def o_h_two_23 : List IS := [ip 63 (pBin .eql (tg 7) (cv (.int .i64 16))),
  ip 62 (pMov (tg 63))]
@[simp] def o_h_two_23_ap := ops_rule (c := o_h_two_23) rfl
def o_h_two_24 : List IS := [ip 64 (pMov (tg 1)),
  ip 65 (pMov (tg 2)),
  ip 66 (pBin .lss (tg 64) (tg 65)),
  im 3 67 (mCall 63 [(tg 66)]),
  ip 6 (pMov (tg 67))]
@[simp] def o_h_two_24_ap := ops_rule (c := o_h_two_24) rfl
def c_h_two_11 : SC := sSeq (sReg (seqI o_h_two_24)) sRet
@[simp] def c_h_two_11_ap := seq_rule (c := c_h_two_11) rfl
def o_h_two_25 : List IS := [ip 69 (pBin .eql (tg 7) (cv (.int .i64 17))),
  ip 68 (pMov (tg 69))]
@[simp] def o_h_two_25_ap := ops_rule (c := o_h_two_25) rfl
def o_h_two_26 : List IS := [ip 70 (pMov (tg 1)),
  ip 71 (pMov (tg 2)),
  ip 72 (pBin .leq (tg 70) (tg 71)),
  im 3 73 (mCall 63 [(tg 72)]),
  ip 6 (pMov (tg 73))]
@[simp] def o_h_two_26_ap := ops_rule (c := o_h_two_26) rfl
def c_h_two_12 : SC := sSeq (sReg (seqI o_h_two_26)) sRet
@[simp] def c_h_two_12_ap := seq_rule (c := c_h_two_12) rfl
def o_h_two_27 : List IS := [ip 75 (pBin .eql (tg 7) (cv (.int .i64 18))),
  ip 74 (pMov (tg 75))]
@[simp] def o_h_two_27_ap := ops_rule (c := o_h_two_27) rfl
def o_h_two_28 : List IS := [ip 76 (pMov (tg 1)),
  ip 77 (pMov (tg 2)),
  ip 78 (pBin .gtr (tg 76) (tg 77)),
  im 3 79 (mCall 63 [(tg 78)]),
  ip 6 (pMov (tg 79))]
@[simp] def o_h_two_28_ap := ops_rule (c := o_h_two_28) rfl
def c_h_two_13 : SC := sSeq (sReg (seqI o_h_two_28)) sRet
@[simp] def c_h_two_13_ap := seq_rule (c := c_h_two_13) rfl
def c_h_two_14 : SC := sCond (tg 74) c_h_two_13 sSkip
@[simp] def c_h_two_14_ap := cond_rule (c := c_h_two_14) rfl
def c_h_two_15 : SC := sSeq (sReg (seqI o_h_two_27)) c_h_two_14
@[simp] def c_h_two_15_ap := seq_rule (c := c_h_two_15) rfl
def c_h_two_16 : SC := sCond (tg 68) c_h_two_12 c_h_two_15
@[simp] def c_h_two_16_ap := cond_rule (c := c_h_two_16) rfl
def c_h_two_17 : SC := sSeq (sReg (seqI o_h_two_25)) c_h_two_16
@[simp] def c_h_two_17_ap := seq_rule (c := c_h_two_17) rfl
def c_h_two_18 : SC := sCond (tg 62) c_h_two_11 c_h_two_17
@[simp] def c_h_two_18_ap := cond_rule (c := c_h_two_18) rfl
def c_h_two_19 : SC := sSeq (sReg (seqI o_h_two_23)) c_h_two_18
@[simp] def c_h_two_19_ap := seq_rule (c := c_h_two_19) rfl
def c_h_two_20 : SC := sCond (tg 56) c_h_two_10 c_h_two_19
@[simp] def c_h_two_20_ap := cond_rule (c := c_h_two_20) rfl
def c_h_two_21 : SC := sSeq (sReg (seqI o_h_two_21)) c_h_two_20
@[simp] def c_h_two_21_ap := seq_rule (c := c_h_two_21) rfl
def c_h_two_22 : SC := sCond (tg 50) c_h_two_9 c_h_two_21
@[simp] def c_h_two_22_ap := cond_rule (c := c_h_two_22) rfl
def c_h_two_23 : SC := sSeq (sReg (seqI o_h_two_19)) c_h_two_22
@[simp] def c_h_two_23_ap := seq_rule (c := c_h_two_23) rfl
def c_h_two_24 : SC := sCond (tg 45) c_h_two_8 c_h_two_23
@[simp] def c_h_two_24_ap := cond_rule (c := c_h_two_24) rfl
def c_h_two_25 : SC := sSeq (sReg (seqI o_h_two_17)) c_h_two_24
@[simp] def c_h_two_25_ap := seq_rule (c := c_h_two_25) rfl
def c_h_two_26 : SC := sCond (tg 40) c_h_two_7 c_h_two_25
@[simp] def c_h_two_26_ap := cond_rule (c := c_h_two_26) rfl
def c_h_two_27 : SC := sSeq (sReg (seqI o_h_two_15)) c_h_two_26
@[simp] def c_h_two_27_ap := seq_rule (c := c_h_two_27) rfl
def c_h_two_28 : SC := sCond (tg 35) c_h_two_6 c_h_two_27
@[simp] def c_h_two_28_ap := cond_rule (c := c_h_two_28) rfl
def c_h_two_29 : SC := sSeq (sReg (seqI o_h_two_13)) c_h_two_28
@[simp] def c_h_two_29_ap := seq_rule (c := c_h_two_29) rfl
def c_h_two_30 : SC := sCond (tg 29) c_h_two_5 c_h_two_29
@[simp] def c_h_two_30_ap := cond_rule (c := c_h_two_30) rfl
def c_h_two_31 : SC := sSeq (sReg (seqI o_h_two_11)) c_h_two_30
@[simp] def c_h_two_31_ap := seq_rule (c := c_h_two_31) rfl
def c_h_two_32 : SC := sCond (tg 23) c_h_two_4 c_h_two_31
@[simp] def c_h_two_32_ap := cond_rule (c := c_h_two_32) rfl
def c_h_two_33 : SC := sSeq (sReg (seqI o_h_two_9)) c_h_two_32
@[simp] def c_h_two_33_ap := seq_rule (c := c_h_two_33) rfl
def c_h_two_34 : SC := sCond (tg 18) c_h_two_3 c_h_two_33
@[simp] def c_h_two_34_ap := cond_rule (c := c_h_two_34) rfl
def c_h_two_35 : SC := sSeq (sReg (seqI o_h_two_7)) c_h_two_34
@[simp] def c_h_two_35_ap := seq_rule (c := c_h_two_35) rfl
def c_h_two_36 : SC := sCond (tg 13) c_h_two_2 c_h_two_35
@[simp] def c_h_two_36_ap := cond_rule (c := c_h_two_36) rfl
def c_h_two_37 : SC := sSeq (sReg (seqI o_h_two_5)) c_h_two_36
@[simp] def c_h_two_37_ap := seq_rule (c := c_h_two_37) rfl
def c_h_two_38 : SC := sCond (tg 8) c_h_two_1 c_h_two_37
@[simp] def c_h_two_38_ap := cond_rule (c := c_h_two_38) rfl
def c_h_two_39 : SC := sSeq (sReg (seqI o_h_two_3)) c_h_two_38
@[simp] def c_h_two_39_ap := seq_rule (c := c_h_two_39) rfl
def c_h_two_40 : SC := sBlock 0 c_h_two_39
@[simp] def c_h_two_40_ap := block_rule (c := c_h_two_40) rfl
def c_h_two_41 : SC := sSeq (sReg (seqI o_h_two_2)) c_h_two_40
@[simp] def c_h_two_41_ap := seq_rule (c := c_h_two_41) rfl
def o_h_two_29 : List IS := [ip 80 (pMov (tg 1)),
  ip 81 (pMov (tg 2)),
  ip 82 (pBin .geq (tg 80) (tg 81)),
  im 3 83 (mCall 63 [(tg 82)]),
  ip 6 (pMov (tg 83))]
@[simp] def o_h_two_29_ap := ops_rule (c := o_h_two_29) rfl
def c_h_two_42 : SC := sSeq (sReg (seqI o_h_two_29)) sRet
@[simp] def c_h_two_42_ap := seq_rule (c := c_h_two_42) rfl
def c_h_two_43 : SC := sSeq c_h_two_41 c_h_two_42
@[simp] def c_h_two_43_ap := seq_rule (c := c_h_two_43) rfl
def c_h_two_44 : SC := sSeq (sReg (seqI o_h_two_1)) c_h_two_43
@[simp] def c_h_two_44_ap := seq_rule (c := c_h_two_44) rfl
def d_h_two : DFn := ⟨c_h_two_44, 84, [.t 6]⟩
theorem d_h_two_ok : fnOf Try.prog 42 = some d_h_two := by kernel_rfl
def o_u_at_1 : List IS := [ip 6 (pMov (cv (.int .u64 0)))]
@[simp] def o_u_at_1_ap := ops_rule (c := o_u_at_1) rfl
def o_u_at_2 : List IS := [ip 12 (pMov (tg 0)),
  ip 13 (pMov (tg 1)),
  ip 14 (pIaddrS 4 (tg 12) (tg 13)),
  il 15 (tg 14) (mLoadN 4 (tg 14)),
  im 1 7 (mAlloc [(.int .i64 0), (.int .u64 0), (.int .i64 0), (.int .i64 0)]),
  im0 3 (mStore 4 (tg 7) (tg 15))]
@[simp] def o_u_at_2_ap := ops_rule (c := o_u_at_2) rfl
def o_u_at_3 : List IS := [ip 16 (pFaddr 0 (tg 7)),
  il 17 (tg 16) (mLoad1 (tg 16)),
  ip 18 (pBin .eql (tg 17) (cv (.int .i64 1)))]
@[simp] def o_u_at_3_ap := ops_rule (c := o_u_at_3) rfl
def o_u_at_4 : List IS := [ip 19 (pFaddr 1 (tg 7)),
  il 20 (tg 19) (mLoad1 (tg 19)),
  ip 6 (pMov (tg 20))]
@[simp] def o_u_at_4_ap := ops_rule (c := o_u_at_4) rfl
def c_u_at_1 : SC := sSeq (sReg (seqI o_u_at_4)) sRet
@[simp] def c_u_at_1_ap := seq_rule (c := c_u_at_1) rfl
def c_u_at_2 : SC := sCond (tg 18) c_u_at_1 sSkip
@[simp] def c_u_at_2_ap := cond_rule (c := c_u_at_2) rfl
def c_u_at_3 : SC := sSeq (sReg (seqI o_u_at_3)) c_u_at_2
@[simp] def c_u_at_3_ap := seq_rule (c := c_u_at_3) rfl
def o_u_at_5 : List IS := [ip 21 (pFaddr 0 (tg 7)),
  il 22 (tg 21) (mLoad1 (tg 21)),
  ip 23 (pBin .eql (tg 22) (cv (.int .i64 2)))]
@[simp] def o_u_at_5_ap := ops_rule (c := o_u_at_5) rfl
def o_u_at_6 : List IS := [ip 24 (pMov (tg 2)),
  ip 25 (pFaddr 1 (tg 7)),
  il 26 (tg 25) (mLoad1 (tg 25)),
  ip 27 (pIaddrS 1 (tg 24) (tg 26)),
  il 28 (tg 27) (mLoad1 (tg 27)),
  ip 6 (pMov (tg 28))]
@[simp] def o_u_at_6_ap := ops_rule (c := o_u_at_6) rfl
def c_u_at_4 : SC := sSeq (sReg (seqI o_u_at_6)) sRet
@[simp] def c_u_at_4_ap := seq_rule (c := c_u_at_4) rfl
def c_u_at_5 : SC := sCond (tg 23) c_u_at_4 sSkip
@[simp] def c_u_at_5_ap := cond_rule (c := c_u_at_5) rfl
def c_u_at_6 : SC := sSeq (sReg (seqI o_u_at_5)) c_u_at_5
@[simp] def c_u_at_6_ap := seq_rule (c := c_u_at_6) rfl
def o_u_at_7 : List IS := [ip 29 (pMov (tg 0)),
  ip 30 (pFaddr 2 (tg 7)),
  il 31 (tg 30) (mLoad1 (tg 30)),
  ip 32 (pMov (tg 2)),
  im 3 33 (mCall 43 [(tg 29), (tg 31), (tg 32)]),
  ip 8 (pMov (tg 33))]
@[simp] def o_u_at_7_ap := ops_rule (c := o_u_at_7) rfl
def o_u_at_8 : List IS := [ip 34 (pFaddr 0 (tg 7)),
  il 35 (tg 34) (mLoad1 (tg 34))]
@[simp] def o_u_at_8_ap := ops_rule (c := o_u_at_8) rfl
def o_u_at_9 : List IS := [ip 37 (pBin .eql (tg 35) (cv (.int .i64 3))),
  ip 36 (pMov (tg 37))]
@[simp] def o_u_at_9_ap := ops_rule (c := o_u_at_9) rfl
def o_u_at_10 : List IS := [ip 38 (pMov (tg 8)),
  ip 39 (pBin .sub (cv (.int .u64 0)) (tg 38)),
  ip 6 (pMov (tg 39))]
@[simp] def o_u_at_10_ap := ops_rule (c := o_u_at_10) rfl
def c_u_at_7 : SC := sSeq (sReg (seqI o_u_at_10)) sRet
@[simp] def c_u_at_7_ap := seq_rule (c := c_u_at_7) rfl
def o_u_at_11 : List IS := [ip 41 (pBin .eql (tg 35) (cv (.int .i64 4))),
  ip 40 (pMov (tg 41))]
@[simp] def o_u_at_11_ap := ops_rule (c := o_u_at_11) rfl
def o_u_at_12 : List IS := [ip 42 (pMov (tg 8)),
  ip 43 (pBin .sub (cv (.int .u64 18446744073709551615)) (tg 42)),
  ip 6 (pMov (tg 43))]
@[simp] def o_u_at_12_ap := ops_rule (c := o_u_at_12) rfl
def c_u_at_8 : SC := sSeq (sReg (seqI o_u_at_12)) sRet
@[simp] def c_u_at_8_ap := seq_rule (c := c_u_at_8) rfl
def o_u_at_13 : List IS := [ip 45 (pBin .eql (tg 35) (cv (.int .i64 5))),
  ip 44 (pMov (tg 45))]
@[simp] def o_u_at_13_ap := ops_rule (c := o_u_at_13) rfl
def o_u_at_14 : List IS := [ip 46 (pMov (tg 8)),
  ip 47 (pBin .eql (tg 46) (cv (.int .u64 0))),
  im 3 48 (mCall 64 [(tg 47)]),
  ip 6 (pMov (tg 48))]
@[simp] def o_u_at_14_ap := ops_rule (c := o_u_at_14) rfl
def c_u_at_9 : SC := sSeq (sReg (seqI o_u_at_14)) sRet
@[simp] def c_u_at_9_ap := seq_rule (c := c_u_at_9) rfl
def c_u_at_10 : SC := sCond (tg 44) c_u_at_9 sSkip
@[simp] def c_u_at_10_ap := cond_rule (c := c_u_at_10) rfl
def c_u_at_11 : SC := sSeq (sReg (seqI o_u_at_13)) c_u_at_10
@[simp] def c_u_at_11_ap := seq_rule (c := c_u_at_11) rfl
def c_u_at_12 : SC := sCond (tg 40) c_u_at_8 c_u_at_11
@[simp] def c_u_at_12_ap := cond_rule (c := c_u_at_12) rfl
def c_u_at_13 : SC := sSeq (sReg (seqI o_u_at_11)) c_u_at_12
@[simp] def c_u_at_13_ap := seq_rule (c := c_u_at_13) rfl
def c_u_at_14 : SC := sCond (tg 36) c_u_at_7 c_u_at_13
@[simp] def c_u_at_14_ap := cond_rule (c := c_u_at_14) rfl
def c_u_at_15 : SC := sSeq (sReg (seqI o_u_at_9)) c_u_at_14
@[simp] def c_u_at_15_ap := seq_rule (c := c_u_at_15) rfl
def c_u_at_16 : SC := sBlock 0 c_u_at_15
@[simp] def c_u_at_16_ap := block_rule (c := c_u_at_16) rfl
def c_u_at_17 : SC := sSeq (sReg (seqI o_u_at_8)) c_u_at_16
@[simp] def c_u_at_17_ap := seq_rule (c := c_u_at_17) rfl
def o_u_at_15 : List IS := [ip 49 (pMov (tg 0)),
  ip 50 (pFaddr 3 (tg 7)),
  il 51 (tg 50) (mLoad1 (tg 50)),
  ip 52 (pMov (tg 2)),
  im 3 53 (mCall 43 [(tg 49), (tg 51), (tg 52)]),
  ip 9 (pMov (tg 53))]
@[simp] def o_u_at_15_ap := ops_rule (c := o_u_at_15) rfl
def o_u_at_16 : List IS := [ip 54 (pFaddr 0 (tg 7)),
  il 55 (tg 54) (mLoad1 (tg 54))]
@[simp] def o_u_at_16_ap := ops_rule (c := o_u_at_16) rfl
def o_u_at_17 : List IS := [ip 57 (pBin .eql (tg 55) (cv (.int .i64 6))),
  ip 56 (pMov (tg 57))]
@[simp] def o_u_at_17_ap := ops_rule (c := o_u_at_17) rfl
def o_u_at_18 : List IS := [ip 58 (pMov (tg 8)),
  ip 59 (pMov (tg 9)),
  ip 60 (pBin .mul (tg 58) (tg 59)),
  ip 6 (pMov (tg 60))]
@[simp] def o_u_at_18_ap := ops_rule (c := o_u_at_18) rfl
def c_u_at_18 : SC := sSeq (sReg (seqI o_u_at_18)) sRet
@[simp] def c_u_at_18_ap := seq_rule (c := c_u_at_18) rfl
def o_u_at_19 : List IS := [ip 62 (pBin .eql (tg 55) (cv (.int .i64 7))),
  ip 61 (pMov (tg 62))]
@[simp] def o_u_at_19_ap := ops_rule (c := o_u_at_19) rfl
def o_u_at_20 : List IS := [ip 63 (pMov (tg 8)),
  ip 64 (pMov (tg 9)),
  ip 65 (pBin .add (tg 63) (tg 64)),
  ip 6 (pMov (tg 65))]
@[simp] def o_u_at_20_ap := ops_rule (c := o_u_at_20) rfl
def c_u_at_19 : SC := sSeq (sReg (seqI o_u_at_20)) sRet
@[simp] def c_u_at_19_ap := seq_rule (c := c_u_at_19) rfl
def o_u_at_21 : List IS := [ip 67 (pBin .eql (tg 55) (cv (.int .i64 8))),
  ip 66 (pMov (tg 67))]
@[simp] def o_u_at_21_ap := ops_rule (c := o_u_at_21) rfl
def o_u_at_22 : List IS := [ip 68 (pMov (tg 8)),
  ip 69 (pMov (tg 9)),
  ip 70 (pBin .sub (tg 68) (tg 69)),
  ip 6 (pMov (tg 70))]
@[simp] def o_u_at_22_ap := ops_rule (c := o_u_at_22) rfl
def c_u_at_20 : SC := sSeq (sReg (seqI o_u_at_22)) sRet
@[simp] def c_u_at_20_ap := seq_rule (c := c_u_at_20) rfl
def o_u_at_23 : List IS := [ip 72 (pBin .eql (tg 55) (cv (.int .i64 9))),
  ip 71 (pMov (tg 72))]
@[simp] def o_u_at_23_ap := ops_rule (c := o_u_at_23) rfl
def o_u_at_24 : List IS := [ip 10 (pMov (cv (.int .u64 0)))]
@[simp] def o_u_at_24_ap := ops_rule (c := o_u_at_24) rfl
def o_u_at_25 : List IS := [ip 73 (pMov (tg 10)),
  ip 74 (pMov (tg 9)),
  ip 75 (pBin .rem (tg 74) (cv (.int .u64 64))),
  ip 76 (pBin .lss (tg 73) (tg 75))]
@[simp] def o_u_at_25_ap := ops_rule (c := o_u_at_25) rfl
def c_u_at_21 : SC := sCond (tg 76) sSkip (sExit 2)
@[simp] def c_u_at_21_ap := cond_rule (c := c_u_at_21) rfl
def c_u_at_22 : SC := sSeq (sReg (seqI o_u_at_25)) c_u_at_21
@[simp] def c_u_at_22_ap := seq_rule (c := c_u_at_22) rfl
def o_u_at_26 : List IS := [ip 79 (pMov (tg 8)),
  ip 80 (pMov (tg 8)),
  ip 81 (pBin .add (tg 79) (tg 80)),
  ip 8 (pMov (tg 81))]
@[simp] def o_u_at_26_ap := ops_rule (c := o_u_at_26) rfl
def c_u_at_23 : SC := sBlock 3 (sReg (seqI o_u_at_26))
@[simp] def c_u_at_23_ap := block_rule (c := c_u_at_23) rfl
def o_u_at_27 : List IS := [ip 77 (pMov (tg 10)),
  ip 78 (pBin .add (tg 77) (cv (.int .u64 1))),
  ip 10 (pMov (tg 78))]
@[simp] def o_u_at_27_ap := ops_rule (c := o_u_at_27) rfl
def c_u_at_24 : SC := sSeq c_u_at_23 (sReg (seqI o_u_at_27))
@[simp] def c_u_at_24_ap := seq_rule (c := c_u_at_24) rfl
def c_u_at_25 : SC := sSeq c_u_at_22 c_u_at_24
@[simp] def c_u_at_25_ap := seq_rule (c := c_u_at_25) rfl
def c_u_at_26 : SC := sLoop c_u_at_25
def c_u_at_27 : SC := sBlock 2 c_u_at_26
@[simp] def c_u_at_27_ap := block_rule (c := c_u_at_27) rfl
def c_u_at_28 : SC := sSeq (sReg (seqI o_u_at_24)) c_u_at_27
@[simp] def c_u_at_28_ap := seq_rule (c := c_u_at_28) rfl
def o_u_at_28 : List IS := [ip 82 (pMov (tg 8)),
  ip 6 (pMov (tg 82))]
@[simp] def o_u_at_28_ap := ops_rule (c := o_u_at_28) rfl
def c_u_at_29 : SC := sSeq (sReg (seqI o_u_at_28)) sRet
@[simp] def c_u_at_29_ap := seq_rule (c := c_u_at_29) rfl
def c_u_at_30 : SC := sSeq c_u_at_28 c_u_at_29
@[simp] def c_u_at_30_ap := seq_rule (c := c_u_at_30) rfl
def o_u_at_29 : List IS := [ip 84 (pBin .eql (tg 55) (cv (.int .i64 10))),
  ip 83 (pMov (tg 84))]
@[simp] def o_u_at_29_ap := ops_rule (c := o_u_at_29) rfl
def o_u_at_30 : List IS := [ip 11 (pMov (cv (.int .u64 0)))]
@[simp] def o_u_at_30_ap := ops_rule (c := o_u_at_30) rfl
def o_u_at_31 : List IS := [ip 85 (pMov (tg 11)),
  ip 86 (pMov (tg 9)),
  ip 87 (pBin .rem (tg 86) (cv (.int .u64 64))),
  ip 88 (pBin .lss (tg 85) (tg 87))]
@[simp] def o_u_at_31_ap := ops_rule (c := o_u_at_31) rfl
def c_u_at_31 : SC := sCond (tg 88) sSkip (sExit 4)
@[simp] def c_u_at_31_ap := cond_rule (c := c_u_at_31) rfl
def c_u_at_32 : SC := sSeq (sReg (seqI o_u_at_31)) c_u_at_31
@[simp] def c_u_at_32_ap := seq_rule (c := c_u_at_32) rfl
def o_u_at_32 : List IS := [ip 91 (pMov (tg 8)),
  ip 92 (pBin .quo (tg 91) (cv (.int .u64 2))),
  ip 8 (pMov (tg 92))]
@[simp] def o_u_at_32_ap := ops_rule (c := o_u_at_32) rfl
def c_u_at_33 : SC := sBlock 5 (sReg (seqI o_u_at_32))
@[simp] def c_u_at_33_ap := block_rule (c := c_u_at_33) rfl
def o_u_at_33 : List IS := [ip 89 (pMov (tg 11)),
  ip 90 (pBin .add (tg 89) (cv (.int .u64 1))),
  ip 11 (pMov (tg 90))]
@[simp] def o_u_at_33_ap := ops_rule (c := o_u_at_33) rfl
def c_u_at_34 : SC := sSeq c_u_at_33 (sReg (seqI o_u_at_33))
@[simp] def c_u_at_34_ap := seq_rule (c := c_u_at_34) rfl
def c_u_at_35 : SC := sSeq c_u_at_32 c_u_at_34
@[simp] def c_u_at_35_ap := seq_rule (c := c_u_at_35) rfl
def c_u_at_36 : SC := sLoop c_u_at_35
def c_u_at_37 : SC := sBlock 4 c_u_at_36
@[simp] def c_u_at_37_ap := block_rule (c := c_u_at_37) rfl
def c_u_at_38 : SC := sSeq (sReg (seqI o_u_at_30)) c_u_at_37
@[simp] def c_u_at_38_ap := seq_rule (c := c_u_at_38) rfl
def o_u_at_34 : List IS := [ip 93 (pMov (tg 8)),
  ip 6 (pMov (tg 93))]
@[simp] def o_u_at_34_ap := ops_rule (c := o_u_at_34) rfl
def c_u_at_39 : SC := sSeq (sReg (seqI o_u_at_34)) sRet
@[simp] def c_u_at_39_ap := seq_rule (c := c_u_at_39) rfl
def c_u_at_40 : SC := sSeq c_u_at_38 c_u_at_39
@[simp] def c_u_at_40_ap := seq_rule (c := c_u_at_40) rfl
def o_u_at_35 : List IS := [ip 95 (pBin .eql (tg 55) (cv (.int .i64 11))),
  ip 94 (pMov (tg 95))]
@[simp] def o_u_at_35_ap := ops_rule (c := o_u_at_35) rfl
def o_u_at_36 : List IS := [ip 96 (pMov (tg 8)),
  ip 97 (pMov (tg 9)),
  ip 98 (pBin .and (tg 96) (tg 97)),
  ip 6 (pMov (tg 98))]
@[simp] def o_u_at_36_ap := ops_rule (c := o_u_at_36) rfl
def c_u_at_41 : SC := sSeq (sReg (seqI o_u_at_36)) sRet
@[simp] def c_u_at_41_ap := seq_rule (c := c_u_at_41) rfl
def o_u_at_37 : List IS := [ip 100 (pBin .eql (tg 55) (cv (.int .i64 12))),
  ip 99 (pMov (tg 100))]
@[simp] def o_u_at_37_ap := ops_rule (c := o_u_at_37) rfl
def o_u_at_38 : List IS := [ip 101 (pMov (tg 8)),
  ip 102 (pMov (tg 9)),
  ip 103 (pBin .xor (tg 101) (tg 102)),
  ip 6 (pMov (tg 103))]
@[simp] def o_u_at_38_ap := ops_rule (c := o_u_at_38) rfl
def c_u_at_42 : SC := sSeq (sReg (seqI o_u_at_38)) sRet
@[simp] def c_u_at_42_ap := seq_rule (c := c_u_at_42) rfl
def o_u_at_39 : List IS := [ip 105 (pBin .eql (tg 55) (cv (.int .i64 13))),
  ip 104 (pMov (tg 105))]
@[simp] def o_u_at_39_ap := ops_rule (c := o_u_at_39) rfl
def o_u_at_40 : List IS := [ip 106 (pMov (tg 8)),
  ip 107 (pMov (tg 9)),
  ip 108 (pBin .or (tg 106) (tg 107)),
  ip 6 (pMov (tg 108))]
@[simp] def o_u_at_40_ap := ops_rule (c := o_u_at_40) rfl
def c_u_at_43 : SC := sSeq (sReg (seqI o_u_at_40)) sRet
@[simp] def c_u_at_43_ap := seq_rule (c := c_u_at_43) rfl
def o_u_at_41 : List IS := [ip 110 (pBin .eql (tg 55) (cv (.int .i64 14))),
  ip 109 (pMov (tg 110))]
@[simp] def o_u_at_41_ap := ops_rule (c := o_u_at_41) rfl
def o_u_at_42 : List IS := [ip 111 (pMov (tg 8)),
  ip 112 (pMov (tg 9)),
  ip 113 (pBin .eql (tg 111) (tg 112)),
  im 3 114 (mCall 64 [(tg 113)]),
  ip 6 (pMov (tg 114))]
@[simp] def o_u_at_42_ap := ops_rule (c := o_u_at_42) rfl
def c_u_at_44 : SC := sSeq (sReg (seqI o_u_at_42)) sRet
@[simp] def c_u_at_44_ap := seq_rule (c := c_u_at_44) rfl
def o_u_at_43 : List IS := [ip 116 (pBin .eql (tg 55) (cv (.int .i64 15))),
  ip 115 (pMov (tg 116))]
@[simp] def o_u_at_43_ap := ops_rule (c := o_u_at_43) rfl
def o_u_at_44 : List IS := [ip 117 (pMov (tg 8)),
  ip 118 (pMov (tg 9)),
  ip 119 (pBin .neq (tg 117) (tg 118)),
  im 3 120 (mCall 64 [(tg 119)]),
  ip 6 (pMov (tg 120))]
@[simp] def o_u_at_44_ap := ops_rule (c := o_u_at_44) rfl
def c_u_at_45 : SC := sSeq (sReg (seqI o_u_at_44)) sRet
@[simp] def c_u_at_45_ap := seq_rule (c := c_u_at_45) rfl
def o_u_at_45 : List IS := [ip 122 (pBin .eql (tg 55) (cv (.int .i64 16))),
  ip 121 (pMov (tg 122))]
@[simp] def o_u_at_45_ap := ops_rule (c := o_u_at_45) rfl
def o_u_at_46 : List IS := [ip 123 (pMov (tg 8)),
  ip 124 (pMov (tg 9)),
  ip 125 (pBin .lss (tg 123) (tg 124)),
  im 3 126 (mCall 64 [(tg 125)]),
  ip 6 (pMov (tg 126))]
@[simp] def o_u_at_46_ap := ops_rule (c := o_u_at_46) rfl
def c_u_at_46 : SC := sSeq (sReg (seqI o_u_at_46)) sRet
@[simp] def c_u_at_46_ap := seq_rule (c := c_u_at_46) rfl
def o_u_at_47 : List IS := [ip 128 (pBin .eql (tg 55) (cv (.int .i64 17))),
  ip 127 (pMov (tg 128))]
@[simp] def o_u_at_47_ap := ops_rule (c := o_u_at_47) rfl
def o_u_at_48 : List IS := [ip 129 (pMov (tg 8)),
  ip 130 (pMov (tg 9)),
  ip 131 (pBin .leq (tg 129) (tg 130)),
  im 3 132 (mCall 64 [(tg 131)]),
  ip 6 (pMov (tg 132))]
@[simp] def o_u_at_48_ap := ops_rule (c := o_u_at_48) rfl
def c_u_at_47 : SC := sSeq (sReg (seqI o_u_at_48)) sRet
@[simp] def c_u_at_47_ap := seq_rule (c := c_u_at_47) rfl
def o_u_at_49 : List IS := [ip 134 (pBin .eql (tg 55) (cv (.int .i64 18))),
  ip 133 (pMov (tg 134))]
@[simp] def o_u_at_49_ap := ops_rule (c := o_u_at_49) rfl
def o_u_at_50 : List IS := [ip 135 (pMov (tg 9)),
  ip 136 (pMov (tg 8)),
  ip 137 (pBin .lss (tg 135) (tg 136)),
  im 3 138 (mCall 64 [(tg 137)]),
  ip 6 (pMov (tg 138))]
@[simp] def o_u_at_50_ap := ops_rule (c := o_u_at_50) rfl
def c_u_at_48 : SC := sSeq (sReg (seqI o_u_at_50)) sRet
@[simp] def c_u_at_48_ap := seq_rule (c := c_u_at_48) rfl
def c_u_at_49 : SC := sCond (tg 133) c_u_at_48 sSkip
@[simp] def c_u_at_49_ap := cond_rule (c := c_u_at_49) rfl
def c_u_at_50 : SC := sSeq (sReg (seqI o_u_at_49)) c_u_at_49
@[simp] def c_u_at_50_ap := seq_rule (c := c_u_at_50) rfl
def c_u_at_51 : SC := sCond (tg 127) c_u_at_47 c_u_at_50
@[simp] def c_u_at_51_ap := cond_rule (c := c_u_at_51) rfl
def c_u_at_52 : SC := sSeq (sReg (seqI o_u_at_47)) c_u_at_51
@[simp] def c_u_at_52_ap := seq_rule (c := c_u_at_52) rfl
def c_u_at_53 : SC := sCond (tg 121) c_u_at_46 c_u_at_52
@[simp] def c_u_at_53_ap := cond_rule (c := c_u_at_53) rfl
def c_u_at_54 : SC := sSeq (sReg (seqI o_u_at_45)) c_u_at_53
@[simp] def c_u_at_54_ap := seq_rule (c := c_u_at_54) rfl
def c_u_at_55 : SC := sCond (tg 115) c_u_at_45 c_u_at_54
@[simp] def c_u_at_55_ap := cond_rule (c := c_u_at_55) rfl
def c_u_at_56 : SC := sSeq (sReg (seqI o_u_at_43)) c_u_at_55
@[simp] def c_u_at_56_ap := seq_rule (c := c_u_at_56) rfl
def c_u_at_57 : SC := sCond (tg 109) c_u_at_44 c_u_at_56
@[simp] def c_u_at_57_ap := cond_rule (c := c_u_at_57) rfl
def c_u_at_58 : SC := sSeq (sReg (seqI o_u_at_41)) c_u_at_57
@[simp] def c_u_at_58_ap := seq_rule (c := c_u_at_58) rfl
def c_u_at_59 : SC := sCond (tg 104) c_u_at_43 c_u_at_58
@[simp] def c_u_at_59_ap := cond_rule (c := c_u_at_59) rfl
def c_u_at_60 : SC := sSeq (sReg (seqI o_u_at_39)) c_u_at_59
@[simp] def c_u_at_60_ap := seq_rule (c := c_u_at_60) rfl
def c_u_at_61 : SC := sCond (tg 99) c_u_at_42 c_u_at_60
@[simp] def c_u_at_61_ap := cond_rule (c := c_u_at_61) rfl
def c_u_at_62 : SC := sSeq (sReg (seqI o_u_at_37)) c_u_at_61
@[simp] def c_u_at_62_ap := seq_rule (c := c_u_at_62) rfl
def c_u_at_63 : SC := sCond (tg 94) c_u_at_41 c_u_at_62
@[simp] def c_u_at_63_ap := cond_rule (c := c_u_at_63) rfl
def c_u_at_64 : SC := sSeq (sReg (seqI o_u_at_35)) c_u_at_63
@[simp] def c_u_at_64_ap := seq_rule (c := c_u_at_64) rfl
def c_u_at_65 : SC := sCond (tg 83) c_u_at_40 c_u_at_64
@[simp] def c_u_at_65_ap := cond_rule (c := c_u_at_65) rfl
def c_u_at_66 : SC := sSeq (sReg (seqI o_u_at_29)) c_u_at_65
@[simp] def c_u_at_66_ap := seq_rule (c := c_u_at_66) rfl
def c_u_at_67 : SC := sCond (tg 71) c_u_at_30 c_u_at_66
@[simp] def c_u_at_67_ap := cond_rule (c := c_u_at_67) rfl
def c_u_at_68 : SC := sSeq (sReg (seqI o_u_at_23)) c_u_at_67
@[simp] def c_u_at_68_ap := seq_rule (c := c_u_at_68) rfl
def c_u_at_69 : SC := sCond (tg 66) c_u_at_20 c_u_at_68
@[simp] def c_u_at_69_ap := cond_rule (c := c_u_at_69) rfl
def c_u_at_70 : SC := sSeq (sReg (seqI o_u_at_21)) c_u_at_69
@[simp] def c_u_at_70_ap := seq_rule (c := c_u_at_70) rfl
def c_u_at_71 : SC := sCond (tg 61) c_u_at_19 c_u_at_70
@[simp] def c_u_at_71_ap := cond_rule (c := c_u_at_71) rfl
def c_u_at_72 : SC := sSeq (sReg (seqI o_u_at_19)) c_u_at_71
@[simp] def c_u_at_72_ap := seq_rule (c := c_u_at_72) rfl
def c_u_at_73 : SC := sCond (tg 56) c_u_at_18 c_u_at_72
@[simp] def c_u_at_73_ap := cond_rule (c := c_u_at_73) rfl
def c_u_at_74 : SC := sSeq (sReg (seqI o_u_at_17)) c_u_at_73
@[simp] def c_u_at_74_ap := seq_rule (c := c_u_at_74) rfl
def c_u_at_75 : SC := sBlock 1 c_u_at_74
@[simp] def c_u_at_75_ap := block_rule (c := c_u_at_75) rfl
def c_u_at_76 : SC := sSeq (sReg (seqI o_u_at_16)) c_u_at_75
@[simp] def c_u_at_76_ap := seq_rule (c := c_u_at_76) rfl
def o_u_at_51 : List IS := [ip 139 (pMov (tg 9)),
  ip 140 (pMov (tg 8)),
  ip 141 (pBin .leq (tg 139) (tg 140)),
  im 3 142 (mCall 64 [(tg 141)]),
  ip 6 (pMov (tg 142))]
@[simp] def o_u_at_51_ap := ops_rule (c := o_u_at_51) rfl
def c_u_at_77 : SC := sSeq (sReg (seqI o_u_at_51)) sRet
@[simp] def c_u_at_77_ap := seq_rule (c := c_u_at_77) rfl
def c_u_at_78 : SC := sSeq c_u_at_76 c_u_at_77
@[simp] def c_u_at_78_ap := seq_rule (c := c_u_at_78) rfl
def c_u_at_79 : SC := sSeq (sReg (seqI o_u_at_15)) c_u_at_78
@[simp] def c_u_at_79_ap := seq_rule (c := c_u_at_79) rfl
def c_u_at_80 : SC := sSeq c_u_at_17 c_u_at_79
@[simp] def c_u_at_80_ap := seq_rule (c := c_u_at_80) rfl
def c_u_at_81 : SC := sSeq (sReg (seqI o_u_at_7)) c_u_at_80
@[simp] def c_u_at_81_ap := seq_rule (c := c_u_at_81) rfl
def c_u_at_82 : SC := sSeq c_u_at_6 c_u_at_81
@[simp] def c_u_at_82_ap := seq_rule (c := c_u_at_82) rfl
def c_u_at_83 : SC := sSeq c_u_at_3 c_u_at_82
@[simp] def c_u_at_83_ap := seq_rule (c := c_u_at_83) rfl
def c_u_at_84 : SC := sSeq (sReg (seqI o_u_at_2)) c_u_at_83
@[simp] def c_u_at_84_ap := seq_rule (c := c_u_at_84) rfl
def c_u_at_85 : SC := sSeq (sReg (seqI o_u_at_1)) c_u_at_84
@[simp] def c_u_at_85_ap := seq_rule (c := c_u_at_85) rfl
def d_u_at : DFn := ⟨c_u_at_85, 143, [.t 6]⟩
theorem d_u_at_ok : fnOf Try.prog 43 = some d_u_at := by kernel_rfl
def o_h_Machine_loc_1 : List IS := [im 1 3 (mBox (tg 1)),
  ip 4 (pMov (cv (.int .i64 0)))]
@[simp] def o_h_Machine_loc_1_ap := ops_rule (c := o_h_Machine_loc_1) rfl
def o_h_Machine_loc_2 : List IS := [ip 5 (pFaddr 3 (tg 3)),
  il 6 (tg 5) (mLoad1 (tg 5)),
  ip 7 (pBin .eql (tg 6) (cv (.int .i64 0)))]
@[simp] def o_h_Machine_loc_2_ap := ops_rule (c := o_h_Machine_loc_2) rfl
def o_h_Machine_loc_3 : List IS := [ip 8 (pFaddr 2 (tg 3)),
  il 9 (tg 8) (mLoad1 (tg 8)),
  ip 4 (pMov (tg 9))]
@[simp] def o_h_Machine_loc_3_ap := ops_rule (c := o_h_Machine_loc_3) rfl
def c_h_Machine_loc_1 : SC := sSeq (sReg (seqI o_h_Machine_loc_3)) sRet
@[simp] def c_h_Machine_loc_1_ap := seq_rule (c := c_h_Machine_loc_1) rfl
def c_h_Machine_loc_2 : SC := sCond (tg 7) c_h_Machine_loc_1 sSkip
@[simp] def c_h_Machine_loc_2_ap := cond_rule (c := c_h_Machine_loc_2) rfl
def c_h_Machine_loc_3 : SC := sSeq (sReg (seqI o_h_Machine_loc_2)) c_h_Machine_loc_2
@[simp] def c_h_Machine_loc_3_ap := seq_rule (c := c_h_Machine_loc_3) rfl
def o_h_Machine_loc_4 : List DA := [⟨CI.pure (pFaddr 2 (tg 3)), (some 10), none, 0, []⟩,
  ⟨CI.load (tg 10) (mLoad1 (tg 10)), (some 11), none, 1, []⟩,
  ⟨CI.pure (pFaddr 4 (tg 3)), (some 12), none, 2, []⟩,
  ⟨CI.load (tg 12) (mLoad1 (tg 12)), (some 13), none, 3, []⟩,
  ⟨CI.pure (pMov (tg 0)), (some 14), none, 4, []⟩,
  ⟨CI.pure (pNilck (tg 14)), (some 15), none, 5, []⟩,
  ⟨CI.pure (pFaddr 3 (tg 15)), (some 16), none, 6, []⟩,
  ⟨CI.load (tg 16) (mLoad1 (tg 16)), (some 17), none, 7, []⟩,
  ⟨CI.mem 3 (mCall 22 [(tg 13), (tg 17)]), (some 18), none, 8, [1]⟩,
  ⟨CI.pure (pFaddr 3 (tg 3)), (some 19), none, 9, []⟩,
  ⟨CI.load (tg 19) (mLoad1 (tg 19)), (some 20), none, 10, [8]⟩,
  ⟨CI.pure (pBin .sub (tg 20) (cv (.int .i64 1))), (some 21), none, 11, []⟩,
  ⟨CI.pure (pConvI .u64 (tg 21)), (some 22), none, 12, []⟩,
  ⟨CI.pure (pBin .and (tg 18) (tg 22)), (some 23), none, 13, []⟩,
  ⟨CI.pure (pConvI .i64 (tg 23)), (some 24), none, 14, []⟩,
  ⟨CI.pure (pBin .add (tg 11) (tg 24)), (some 25), none, 15, []⟩,
  ⟨CI.pure (pMov (tg 25)), (some 4), none, 16, []⟩]
@[simp] def o_h_Machine_loc_4_ap := das_rule (c := o_h_Machine_loc_4) rfl
def c_h_Machine_loc_4 : SC := sSeq (sAny o_h_Machine_loc_4) sRet
@[simp] def c_h_Machine_loc_4_ap := seq_rule (c := c_h_Machine_loc_4) rfl
def c_h_Machine_loc_5 : SC := sSeq c_h_Machine_loc_3 c_h_Machine_loc_4
@[simp] def c_h_Machine_loc_5_ap := seq_rule (c := c_h_Machine_loc_5) rfl
def c_h_Machine_loc_6 : SC := sSeq (sReg (seqI o_h_Machine_loc_1)) c_h_Machine_loc_5
@[simp] def c_h_Machine_loc_6_ap := seq_rule (c := c_h_Machine_loc_6) rfl
def d_h_Machine_loc : DFn := ⟨c_h_Machine_loc_6, 26, [.t 4]⟩
theorem d_h_Machine_loc_ok : fnOf Try.prog 44 = some d_h_Machine_loc := by kernel_rfl
def o_h_reading_1 : List IS := [ip 2 (pMov (cv (.int .i64 0)))]
@[simp] def o_h_reading_1_ap := ops_rule (c := o_h_reading_1) rfl
def o_h_reading_2 : List IS := [ip 3 (pBuild [(.int .i64 0), (.int .i64 0), (.int .i64 0), (.int .i64 0), (.int .i64 0), (.int .i64 0)] [(1, 1, (cv (.int .i64 1))), (2, 1, (cv (.int .i64 2))), (3, 1, (cv (.int .i64 1))), (4, 1, (cv (.int .i64 2))), (5, 1, (cv (.int .i64 5)))]),
  ip 4 (pMov (tg 0)),
  ip 5 (pIdx 6 false 1 (tg 3) (tg 4)),
  ip 2 (pMov (tg 5))]
@[simp] def o_h_reading_2_ap := ops_rule (c := o_h_reading_2) rfl
def c_h_reading_1 : SC := sSeq (sReg (seqI o_h_reading_2)) sRet
@[simp] def c_h_reading_1_ap := seq_rule (c := c_h_reading_1) rfl
def c_h_reading_2 : SC := sSeq (sReg (seqI o_h_reading_1)) c_h_reading_1
@[simp] def c_h_reading_2_ap := seq_rule (c := c_h_reading_2) rfl
def d_h_reading : DFn := ⟨c_h_reading_2, 6, [.t 2]⟩
theorem d_h_reading_ok : fnOf Try.prog 45 = some d_h_reading := by kernel_rfl
def o_h_writing_1 : List IS := [ip 2 (pMov (cv (.int .i64 0)))]
@[simp] def o_h_writing_1_ap := ops_rule (c := o_h_writing_1) rfl
def o_h_writing_2 : List IS := [ip 3 (pBuild [(.int .i64 0), (.int .i64 0), (.int .i64 0), (.int .i64 0), (.int .i64 0), (.int .i64 0)] [(1, 1, (cv (.int .i64 1))), (2, 1, (cv (.int .i64 1))), (3, 1, (cv (.int .i64 3))), (4, 1, (cv (.int .i64 3))), (5, 1, (cv (.int .i64 5)))]),
  ip 4 (pMov (tg 0)),
  ip 5 (pIdx 6 false 1 (tg 3) (tg 4)),
  ip 2 (pMov (tg 5))]
@[simp] def o_h_writing_2_ap := ops_rule (c := o_h_writing_2) rfl
def c_h_writing_1 : SC := sSeq (sReg (seqI o_h_writing_2)) sRet
@[simp] def c_h_writing_1_ap := seq_rule (c := c_h_writing_1) rfl
def c_h_writing_2 : SC := sSeq (sReg (seqI o_h_writing_1)) c_h_writing_1
@[simp] def c_h_writing_2_ap := seq_rule (c := c_h_writing_2) rfl
def d_h_writing : DFn := ⟨c_h_writing_2, 6, [.t 2]⟩
theorem d_h_writing_ok : fnOf Try.prog 46 = some d_h_writing := by kernel_rfl
def o_k_may_1 : List IS := [ip 4 (pMov (cv (.bool false)))]
@[simp] def o_k_may_1_ap := ops_rule (c := o_k_may_1) rfl
def o_k_may_2 : List IS := [ip 5 (pMov (tg 0))]
@[simp] def o_k_may_2_ap := ops_rule (c := o_k_may_2) rfl
def o_k_may_3 : List IS := [ip 7 (pBin .eql (tg 5) (cv (.int .i64 2))),
  ip 6 (pMov (tg 7))]
@[simp] def o_k_may_3_ap := ops_rule (c := o_k_may_3) rfl
def o_k_may_4 : List IS := [ip 8 (pMov (tg 1)),
  ip 9 (pBin .eql (tg 8) (cv (.int .i64 1))),
  ip 10 (pMov (tg 9)),
  gd 10 false (some 11) (ip 11 (pMov (tg 1))),
  gd 10 false (some 12) (ip 12 (pBin .eql (tg 11) (cv (.int .i64 2)))),
  ip 13 (pPick (tg 10) (cv (.bool true)) (tg 12)),
  ip 14 (pMov (tg 13)),
  gd 14 false (some 15) (ip 15 (pMov (tg 1))),
  gd 14 false (some 16) (ip 16 (pBin .eql (tg 15) (cv (.int .i64 5)))),
  ip 17 (pPick (tg 14) (cv (.bool true)) (tg 16)),
  ip 4 (pMov (tg 17))]
@[simp] def o_k_may_4_ap := ops_rule (c := o_k_may_4) rfl
def c_k_may_1 : SC := sSeq (sReg (seqI o_k_may_4)) sRet
@[simp] def c_k_may_1_ap := seq_rule (c := c_k_may_1) rfl
def o_k_may_5 : List IS := [ip 19 (pBin .eql (tg 5) (cv (.int .i64 3))),
  ip 18 (pMov (tg 19))]
@[simp] def o_k_may_5_ap := ops_rule (c := o_k_may_5) rfl
def o_k_may_6 : List IS := [ip 20 (pMov (tg 1)),
  ip 21 (pBin .eql (tg 20) (cv (.int .i64 1))),
  ip 22 (pMov (tg 21)),
  gd 22 false (some 23) (ip 23 (pMov (tg 1))),
  gd 22 false (some 24) (ip 24 (pBin .eql (tg 23) (cv (.int .i64 3)))),
  ip 25 (pPick (tg 22) (cv (.bool true)) (tg 24)),
  ip 26 (pMov (tg 25)),
  gd 26 false (some 27) (ip 27 (pMov (tg 1))),
  gd 26 false (some 28) (ip 28 (pBin .eql (tg 27) (cv (.int .i64 5)))),
  ip 29 (pPick (tg 26) (cv (.bool true)) (tg 28)),
  ip 4 (pMov (tg 29))]
@[simp] def o_k_may_6_ap := ops_rule (c := o_k_may_6) rfl
def c_k_may_2 : SC := sSeq (sReg (seqI o_k_may_6)) sRet
@[simp] def c_k_may_2_ap := seq_rule (c := c_k_may_2) rfl
def o_k_may_7 : List IS := [ip 31 (pBin .eql (tg 5) (cv (.int .i64 4))),
  ip 30 (pMov (tg 31))]
@[simp] def o_k_may_7_ap := ops_rule (c := o_k_may_7) rfl
def o_k_may_8 : List IS := [ip 32 (pBin .eql (tg 5) (cv (.int .i64 5))),
  ip 30 (pMov (tg 32))]
@[simp] def o_k_may_8_ap := ops_rule (c := o_k_may_8) rfl
def o_k_may_9 : List IS := [ip 33 (pBin .eql (tg 5) (cv (.int .i64 6))),
  ip 30 (pMov (tg 33))]
@[simp] def o_k_may_9_ap := ops_rule (c := o_k_may_9) rfl
def c_k_may_3 : SC := sCond (tg 30) sSkip (sReg (seqI o_k_may_9))
@[simp] def c_k_may_3_ap := cond_rule (c := c_k_may_3) rfl
def c_k_may_4 : SC := sSeq (sReg (seqI o_k_may_8)) c_k_may_3
@[simp] def c_k_may_4_ap := seq_rule (c := c_k_may_4) rfl
def c_k_may_5 : SC := sCond (tg 30) sSkip c_k_may_4
@[simp] def c_k_may_5_ap := cond_rule (c := c_k_may_5) rfl
def c_k_may_6 : SC := sSeq (sReg (seqI o_k_may_7)) c_k_may_5
@[simp] def c_k_may_6_ap := seq_rule (c := c_k_may_6) rfl
def o_k_may_10 : List IS := [ip 34 (pMov (tg 1)),
  ip 35 (pBin .geq (tg 34) (cv (.int .i64 1))),
  ip 36 (pMov (tg 35)),
  gd 36 true (some 37) (ip 37 (pMov (tg 1))),
  gd 36 true (some 38) (ip 38 (pBin .leq (tg 37) (cv (.int .i64 5)))),
  ip 39 (pPick (tg 36) (tg 38) (cv (.bool false))),
  ip 4 (pMov (tg 39))]
@[simp] def o_k_may_10_ap := ops_rule (c := o_k_may_10) rfl
def c_k_may_7 : SC := sSeq (sReg (seqI o_k_may_10)) sRet
@[simp] def c_k_may_7_ap := seq_rule (c := c_k_may_7) rfl
def o_k_may_11 : List IS := [ip 41 (pBin .eql (tg 5) (cv (.int .i64 7))),
  ip 40 (pMov (tg 41))]
@[simp] def o_k_may_11_ap := ops_rule (c := o_k_may_11) rfl
def o_k_may_12 : List IS := [ip 42 (pMov (tg 1)),
  ip 43 (pBin .geq (tg 42) (cv (.int .i64 2))),
  ip 44 (pMov (tg 43)),
  gd 44 true (some 45) (ip 45 (pMov (tg 1))),
  gd 44 true (some 46) (ip 46 (pBin .leq (tg 45) (cv (.int .i64 5)))),
  ip 47 (pPick (tg 44) (tg 46) (cv (.bool false))),
  ip 4 (pMov (tg 47))]
@[simp] def o_k_may_12_ap := ops_rule (c := o_k_may_12) rfl
def c_k_may_8 : SC := sSeq (sReg (seqI o_k_may_12)) sRet
@[simp] def c_k_may_8_ap := seq_rule (c := c_k_may_8) rfl
def c_k_may_9 : SC := sCond (tg 40) c_k_may_8 sSkip
@[simp] def c_k_may_9_ap := cond_rule (c := c_k_may_9) rfl
def c_k_may_10 : SC := sSeq (sReg (seqI o_k_may_11)) c_k_may_9
@[simp] def c_k_may_10_ap := seq_rule (c := c_k_may_10) rfl
def c_k_may_11 : SC := sCond (tg 30) c_k_may_7 c_k_may_10
@[simp] def c_k_may_11_ap := cond_rule (c := c_k_may_11) rfl
def c_k_may_12 : SC := sSeq c_k_may_6 c_k_may_11
@[simp] def c_k_may_12_ap := seq_rule (c := c_k_may_12) rfl
def c_k_may_13 : SC := sCond (tg 18) c_k_may_2 c_k_may_12
@[simp] def c_k_may_13_ap := cond_rule (c := c_k_may_13) rfl
def c_k_may_14 : SC := sSeq (sReg (seqI o_k_may_5)) c_k_may_13
@[simp] def c_k_may_14_ap := seq_rule (c := c_k_may_14) rfl
def c_k_may_15 : SC := sCond (tg 6) c_k_may_1 c_k_may_14
@[simp] def c_k_may_15_ap := cond_rule (c := c_k_may_15) rfl
def c_k_may_16 : SC := sSeq (sReg (seqI o_k_may_3)) c_k_may_15
@[simp] def c_k_may_16_ap := seq_rule (c := c_k_may_16) rfl
def c_k_may_17 : SC := sBlock 0 c_k_may_16
@[simp] def c_k_may_17_ap := block_rule (c := c_k_may_17) rfl
def c_k_may_18 : SC := sSeq (sReg (seqI o_k_may_2)) c_k_may_17
@[simp] def c_k_may_18_ap := seq_rule (c := c_k_may_18) rfl
def o_k_may_13 : List IS := [ip 48 (pMov (tg 1)),
  ip 49 (pBin .eql (tg 48) (cv (.int .i64 0))),
  ip 4 (pMov (tg 49))]
@[simp] def o_k_may_13_ap := ops_rule (c := o_k_may_13) rfl
def c_k_may_19 : SC := sSeq (sReg (seqI o_k_may_13)) sRet
@[simp] def c_k_may_19_ap := seq_rule (c := c_k_may_19) rfl
def c_k_may_20 : SC := sSeq c_k_may_18 c_k_may_19
@[simp] def c_k_may_20_ap := seq_rule (c := c_k_may_20) rfl
def c_k_may_21 : SC := sSeq (sReg (seqI o_k_may_1)) c_k_may_20
@[simp] def c_k_may_21_ap := seq_rule (c := c_k_may_21) rfl
def d_k_may : DFn := ⟨c_k_may_21, 50, [.t 4]⟩
theorem d_k_may_ok : fnOf Try.prog 59 = some d_k_may := by kernel_rfl
def o_k_parts_1 : List IS := [im 1 2 (mAlloc [(.bool false), (.bool false), (.bool false), (.bool false), (.bool false)])]
@[simp] def o_k_parts_1_ap := ops_rule (c := o_k_parts_1) rfl
def o_k_parts_2 : List IS := [ip 3 (pBuild [(.bool false), (.bool false), (.bool false), (.bool false), (.bool false)] [(0, 1, (cv (.bool true))), (2, 1, (cv (.bool true)))]),
  ip 4 (pBuild [(.bool false), (.bool false), (.bool false), (.bool false), (.bool false)] [(0, 1, (cv (.bool true))), (1, 1, (cv (.bool true)))]),
  ip 5 (pBuild [(.bool false), (.bool false), (.bool false), (.bool false), (.bool false)] [(1, 1, (cv (.bool true))), (2, 1, (cv (.bool true)))]),
  ip 6 (pBuild [(.bool false), (.bool false), (.bool false), (.bool false), (.bool false)] [(0, 1, (cv (.bool true))), (1, 1, (cv (.bool true))), (2, 1, (cv (.bool true)))]),
  ip 7 (pBuild [(.bool false), (.bool false), (.bool false), (.bool false), (.bool false)] [(0, 1, (cv (.bool true))), (1, 1, (cv (.bool true))), (2, 1, (cv (.bool true)))]),
  ip 8 (pBuild [(.bool false), (.bool false), (.bool false), (.bool false), (.bool false)] [(0, 1, (cv (.bool true))), (1, 1, (cv (.bool true))), (2, 1, (cv (.bool true))), (3, 1, (cv (.bool true)))]),
  ip 9 (pBuild [(.bool false), (.bool false), (.bool false), (.bool false), (.bool false)] []),
  ip 10 (pBuild [(.bool false), (.bool false), (.bool false), (.bool false), (.bool false)] [(2, 1, (cv (.bool true)))]),
  ip 11 (pBuild [(.bool false), (.bool false), (.bool false), (.bool false), (.bool false)] [(4, 1, (cv (.bool true)))]),
  ip 12 (pBuild [(.bool false), (.bool false), (.bool false), (.bool false), (.bool false)] [(2, 1, (cv (.bool true))), (4, 1, (cv (.bool true)))]),
  ip 13 (pBuild [(.bool false), (.bool false), (.bool false), (.bool false), (.bool false), (.bool false), (.bool false), (.bool false), (.bool false), (.bool false), (.bool false), (.bool false), (.bool false), (.bool false), (.bool false), (.bool false), (.bool false), (.bool false), (.bool false), (.bool false), (.bool false), (.bool false), (.bool false), (.bool false), (.bool false), (.bool false), (.bool false), (.bool false), (.bool false), (.bool false), (.bool false), (.bool false), (.bool false), (.bool false), (.bool false), (.bool false), (.bool false), (.bool false), (.bool false), (.bool false), (.bool false), (.bool false), (.bool false), (.bool false), (.bool false), (.bool false), (.bool false), (.bool false), (.bool false), (.bool false), (.bool false), (.bool false), (.bool false), (.bool false), (.bool false)] [(5, 5, (tg 3)), (10, 5, (tg 4)), (15, 5, (tg 5)), (20, 5, (tg 6)), (25, 5, (tg 7)), (30, 5, (tg 8)), (35, 5, (tg 9)), (40, 5, (tg 10)), (45, 5, (tg 11)), (50, 5, (tg 12))]),
  ip 14 (pMov (tg 0)),
  ip 15 (pIdx 11 true 5 (tg 13) (tg 14)),
  im0 3 (mStore 5 (tg 2) (tg 15))]
@[simp] def o_k_parts_2_ap := ops_rule (c := o_k_parts_2) rfl
def c_k_parts_1 : SC := sSeq (sReg (seqI o_k_parts_2)) sRet
@[simp] def c_k_parts_1_ap := seq_rule (c := c_k_parts_1) rfl
def c_k_parts_2 : SC := sSeq (sReg (seqI o_k_parts_1)) c_k_parts_1
@[simp] def c_k_parts_2_ap := seq_rule (c := c_k_parts_2) rfl
def d_k_parts : DFn := ⟨c_k_parts_2, 16, [.cell 2 5]⟩
theorem d_k_parts_ok : fnOf Try.prog 60 = some d_k_parts := by kernel_rfl
def o_k_wholePlace_1 : List IS := [im 1 3 (mBox (tg 0)),
  im 1 4 (mBox (tg 1)),
  ip 6 (pMov (cv (.bool false)))]
@[simp] def o_k_wholePlace_1_ap := ops_rule (c := o_k_wholePlace_1) rfl
def o_k_wholePlace_2 : List IS := [ip 7 (pFaddr 3 (tg 3)),
  il 8 (tg 7) (mLoad1 (tg 7)),
  ip 9 (pBin .lss (tg 8) (cv (.int .i64 0))),
  ip 10 (pMov (tg 9)),
  gd 10 false (some 11) (ip 11 (pFaddr 3 (tg 3))),
  gd 10 false (some 12) (il 12 (tg 11) (mLoad1 (tg 11))),
  gd 10 false (some 13) (ip 13 (pBin .gtr (tg 12) (cv (.int .i64 1024)))),
  ip 14 (pPick (tg 10) (cv (.bool true)) (tg 13)),
  ip 15 (pMov (tg 14)),
  gd 15 false (some 16) (ip 16 (pFaddr 3 (tg 3))),
  gd 15 false (some 17) (il 17 (tg 16) (mLoad1 (tg 16))),
  gd 15 false (some 18) (ip 18 (pFaddr 3 (tg 3))),
  gd 15 false (some 19) (il 19 (tg 18) (mLoad1 (tg 18))),
  gd 15 false (some 20) (ip 20 (pBin .sub (tg 19) (cv (.int .i64 1)))),
  gd 15 false (some 21) (ip 21 (pBin .and (tg 17) (tg 20))),
  gd 15 false (some 22) (ip 22 (pBin .neq (tg 21) (cv (.int .i64 0)))),
  ip 23 (pPick (tg 15) (cv (.bool true)) (tg 22)),
  ip 24 (pMov (tg 23)),
  gd 24 false (some 25) (ip 25 (pFaddr 2 (tg 3))),
  gd 24 false (some 26) (il 26 (tg 25) (mLoad1 (tg 25))),
  gd 24 false (some 27) (ip 27 (pBin .lss (tg 26) (cv (.int .i64 0)))),
  ip 28 (pPick (tg 24) (cv (.bool true)) (tg 27)),
  ip 29 (pMov (tg 28)),
  gd 29 false (some 30) (ip 30 (pFaddr 2 (tg 3))),
  gd 29 false (some 31) (il 31 (tg 30) (mLoad1 (tg 30))),
  gd 29 false (some 32) (ip 32 (pFaddr 0 (tg 4))),
  gd 29 false (some 33) (il 33 (tg 32) (mLoad1 (tg 32))),
  gd 29 false (some 34) (ip 34 (pFaddr 3 (tg 3))),
  gd 29 false (some 35) (il 35 (tg 34) (mLoad1 (tg 34))),
  gd 29 false (some 36) (ip 36 (pMm True [(cv (.int .i64 1)), (tg 35)])),
  gd 29 false (some 37) (ip 37 (pBin .sub (tg 33) (tg 36))),
  gd 29 false (some 38) (ip 38 (pBin .gtr (tg 31) (tg 37))),
  ip 39 (pPick (tg 29) (cv (.bool true)) (tg 38))]
@[simp] def o_k_wholePlace_2_ap := ops_rule (c := o_k_wholePlace_2) rfl
def o_k_wholePlace_3 : List IS := [ip 6 (pMov (cv (.bool false)))]
@[simp] def o_k_wholePlace_3_ap := ops_rule (c := o_k_wholePlace_3) rfl
def c_k_wholePlace_1 : SC := sSeq (sReg (seqI o_k_wholePlace_3)) sRet
@[simp] def c_k_wholePlace_1_ap := seq_rule (c := c_k_wholePlace_1) rfl
def c_k_wholePlace_2 : SC := sCond (tg 39) c_k_wholePlace_1 sSkip
@[simp] def c_k_wholePlace_2_ap := cond_rule (c := c_k_wholePlace_2) rfl
def c_k_wholePlace_3 : SC := sSeq (sReg (seqI o_k_wholePlace_2)) c_k_wholePlace_2
@[simp] def c_k_wholePlace_3_ap := seq_rule (c := c_k_wholePlace_3) rfl
def o_k_wholePlace_4 : List IS := [ip 40 (pFaddr 3 (tg 3)),
  il 41 (tg 40) (mLoad1 (tg 40)),
  ip 42 (pBin .eql (tg 41) (cv (.int .i64 0))),
  ip 43 (pMov (tg 42)),
  gd 43 true (some 44) (ip 44 (pFaddr 4 (tg 3))),
  gd 43 true (some 45) (il 45 (tg 44) (mLoad1 (tg 44))),
  gd 43 true (some 46) (ip 46 (pLen (tg 45))),
  gd 43 true (some 47) (ip 47 (pBin .eql (tg 46) (cv (.int .i64 0)))),
  ip 48 (pPick (tg 43) (tg 47) (cv (.bool false))),
  ip 49 (pMov (tg 48)),
  gd 49 false (some 50) (ip 50 (pFaddr 3 (tg 3))),
  gd 49 false (some 51) (il 51 (tg 50) (mLoad1 (tg 50))),
  gd 49 false (some 52) (ip 52 (pBin .gtr (tg 51) (cv (.int .i64 0)))),
  gd 49 false (some 53) (ip 53 (pMov (tg 52))),
  gd 53 true (some 54) (ip 54 (pFaddr 4 (tg 3))),
  gd 53 true (some 55) (il 55 (tg 54) (mLoad1 (tg 54))),
  gd 53 true (some 56) (ip 56 (pMov (tg 2))),
  gd 53 true (some 57) (im 3 57 (mCall 62 [(tg 55), (tg 56)])),
  gd 49 false (some 58) (ip 58 (pPick (tg 53) (tg 57) (cv (.bool false)))),
  ip 59 (pPick (tg 49) (cv (.bool true)) (tg 58)),
  ip 6 (pMov (tg 59))]
@[simp] def o_k_wholePlace_4_ap := ops_rule (c := o_k_wholePlace_4) rfl
def c_k_wholePlace_4 : SC := sSeq (sReg (seqI o_k_wholePlace_4)) sRet
@[simp] def c_k_wholePlace_4_ap := seq_rule (c := c_k_wholePlace_4) rfl
def c_k_wholePlace_5 : SC := sSeq c_k_wholePlace_3 c_k_wholePlace_4
@[simp] def c_k_wholePlace_5_ap := seq_rule (c := c_k_wholePlace_5) rfl
def c_k_wholePlace_6 : SC := sSeq (sReg (seqI o_k_wholePlace_1)) c_k_wholePlace_5
@[simp] def c_k_wholePlace_6_ap := seq_rule (c := c_k_wholePlace_6) rfl
def d_k_wholePlace : DFn := ⟨c_k_wholePlace_6, 60, [.t 6]⟩
theorem d_k_wholePlace_ok : fnOf Try.prog 61 = some d_k_wholePlace := by kernel_rfl
def o_k_expression_1 : List IS := [ip 4 (pMov (cv (.bool false)))]
@[simp] def o_k_expression_1_ap := ops_rule (c := o_k_expression_1) rfl
def o_k_expression_2 : List IS := [ip 9 (pMov (tg 0)),
  ip 10 (pLen (tg 9)),
  ip 11 (pMov (cv (.int .i64 0)))]
@[simp] def o_k_expression_2_ap := ops_rule (c := o_k_expression_2) rfl
def o_k_expression_3 : List IS := [ip 12 (pBin .lss (tg 11) (tg 10))]
@[simp] def o_k_expression_3_ap := ops_rule (c := o_k_expression_3) rfl
def c_k_expression_1 : SC := sCond (tg 12) sSkip (sExit 0)
@[simp] def c_k_expression_1_ap := cond_rule (c := c_k_expression_1) rfl
def o_k_expression_4 : List IS := [ip 13 (pMov (tg 11)),
  ip 14 (pIaddrS 4 (tg 9) (tg 11)),
  il 15 (tg 14) (mLoadN 4 (tg 14)),
  im 1 6 (mAlloc [(.int .i64 0), (.int .u64 0), (.int .i64 0), (.int .i64 0)]),
  ip 5 (pMov (tg 13)),
  im0 3 (mStore 4 (tg 6) (tg 15))]
@[simp] def o_k_expression_4_ap := ops_rule (c := o_k_expression_4) rfl
def o_k_expression_5 : List DA := [⟨CI.pure (pFaddr 2 (tg 6)), (some 16), none, 0, []⟩,
  ⟨CI.load (tg 16) (mLoad1 (tg 16)), (some 17), none, 1, []⟩,
  ⟨CI.pure (pBin .geq (tg 17) (cv (.int .i64 0))), (some 18), none, 2, []⟩,
  ⟨CI.pure (pMov (tg 18)), (some 19), none, 3, []⟩,
  ⟨CI.pure (pFaddr 2 (tg 6)), (some 20), (some (19, true)), 4, []⟩,
  ⟨CI.load (tg 20) (mLoad1 (tg 20)), (some 21), (some (19, true)), 5, []⟩,
  ⟨CI.pure (pMov (tg 5)), (some 22), (some (19, true)), 6, []⟩,
  ⟨CI.pure (pBin .lss (tg 21) (tg 22)), (some 23), (some (19, true)), 7, []⟩,
  ⟨CI.pure (pPick (tg 19) (tg 23) (cv (.bool false))), (some 24), none, 8, []⟩,
  ⟨CI.pure (pFaddr 3 (tg 6)), (some 25), none, 9, []⟩,
  ⟨CI.load (tg 25) (mLoad1 (tg 25)), (some 26), none, 10, []⟩,
  ⟨CI.pure (pBin .geq (tg 26) (cv (.int .i64 0))), (some 27), none, 11, []⟩,
  ⟨CI.pure (pMov (tg 27)), (some 28), none, 12, []⟩,
  ⟨CI.pure (pFaddr 3 (tg 6)), (some 29), (some (28, true)), 13, []⟩,
  ⟨CI.load (tg 29) (mLoad1 (tg 29)), (some 30), (some (28, true)), 14, []⟩,
  ⟨CI.pure (pMov (tg 5)), (some 31), (some (28, true)), 15, []⟩,
  ⟨CI.pure (pBin .lss (tg 30) (tg 31)), (some 32), (some (28, true)), 16, []⟩,
  ⟨CI.pure (pPick (tg 28) (tg 32) (cv (.bool false))), (some 33), none, 17, []⟩,
  ⟨CI.pure (pMov (tg 24)), (some 7), none, 18, []⟩,
  ⟨CI.pure (pMov (tg 33)), (some 8), none, 19, []⟩]
@[simp] def o_k_expression_5_ap := das_rule (c := o_k_expression_5) rfl
def o_k_expression_6 : List IS := [ip 51 (pFaddr 0 (tg 6)),
  il 52 (tg 51) (mLoad1 (tg 51)),
  ip 53 (pBin .eql (tg 52) (cv (.int .i64 1))),
  ip 50 (pMov (tg 53))]
@[simp] def o_k_expression_6_ap := ops_rule (c := o_k_expression_6) rfl
def o_k_expression_7 : List DA := [⟨CI.pure (pFaddr 2 (tg 6)), (some 54), none, 0, []⟩,
  ⟨CI.load (tg 54) (mLoad1 (tg 54)), (some 55), none, 1, []⟩,
  ⟨CI.pure (pBin .eql (tg 55) (cv (.int .i64 0))), (some 56), none, 2, []⟩,
  ⟨CI.pure (pFaddr 3 (tg 6)), (some 57), none, 3, []⟩,
  ⟨CI.load (tg 57) (mLoad1 (tg 57)), (some 58), none, 4, []⟩,
  ⟨CI.pure (pBin .eql (tg 58) (cv (.int .i64 0))), (some 59), none, 5, []⟩,
  ⟨CI.pure (pMov (tg 56)), (some 7), none, 6, []⟩,
  ⟨CI.pure (pMov (tg 59)), (some 8), none, 7, []⟩]
@[simp] def o_k_expression_7_ap := das_rule (c := o_k_expression_7) rfl
def o_k_expression_8 : List IS := [ip 61 (pFaddr 0 (tg 6)),
  il 62 (tg 61) (mLoad1 (tg 61)),
  ip 63 (pBin .eql (tg 62) (cv (.int .i64 2))),
  ip 60 (pMov (tg 63))]
@[simp] def o_k_expression_8_ap := ops_rule (c := o_k_expression_8) rfl
def o_k_expression_9 : List DA := [⟨CI.pure (pFaddr 2 (tg 6)), (some 64), none, 0, []⟩,
  ⟨CI.load (tg 64) (mLoad1 (tg 64)), (some 65), none, 1, []⟩,
  ⟨CI.pure (pBin .eql (tg 65) (cv (.int .i64 0))), (some 66), none, 2, []⟩,
  ⟨CI.pure (pMov (tg 66)), (some 67), none, 3, []⟩,
  ⟨CI.pure (pFaddr 1 (tg 6)), (some 68), (some (67, true)), 4, []⟩,
  ⟨CI.load (tg 68) (mLoad1 (tg 68)), (some 69), (some (67, true)), 5, []⟩,
  ⟨CI.pure (pMov (tg 1)), (some 70), (some (67, true)), 6, []⟩,
  ⟨CI.pure (pConvI .u64 (tg 70)), (some 71), (some (67, true)), 7, []⟩,
  ⟨CI.pure (pBin .lss (tg 69) (tg 71)), (some 72), (some (67, true)), 8, []⟩,
  ⟨CI.pure (pPick (tg 67) (tg 72) (cv (.bool false))), (some 73), none, 9, []⟩,
  ⟨CI.pure (pFaddr 3 (tg 6)), (some 74), none, 10, []⟩,
  ⟨CI.load (tg 74) (mLoad1 (tg 74)), (some 75), none, 11, []⟩,
  ⟨CI.pure (pBin .eql (tg 75) (cv (.int .i64 0))), (some 76), none, 12, []⟩,
  ⟨CI.pure (pMov (tg 73)), (some 7), none, 13, []⟩,
  ⟨CI.pure (pMov (tg 76)), (some 8), none, 14, []⟩]
@[simp] def o_k_expression_9_ap := das_rule (c := o_k_expression_9) rfl
def o_k_expression_10 : List IS := [ip 78 (pFaddr 0 (tg 6)),
  il 79 (tg 78) (mLoad1 (tg 78)),
  ip 80 (pBin .geq (tg 79) (cv (.int .i64 3))),
  ip 81 (pMov (tg 80)),
  gd 81 true (some 82) (ip 82 (pFaddr 0 (tg 6))),
  gd 81 true (some 83) (il 83 (tg 82) (mLoad1 (tg 82))),
  gd 81 true (some 84) (ip 84 (pBin .leq (tg 83) (cv (.int .i64 5)))),
  ip 85 (pPick (tg 81) (tg 84) (cv (.bool false))),
  ip 77 (pMov (tg 85))]
@[simp] def o_k_expression_10_ap := ops_rule (c := o_k_expression_10) rfl
def o_k_expression_11 : List IS := [ip 86 (pFaddr 3 (tg 6)),
  il 87 (tg 86) (mLoad1 (tg 86)),
  ip 88 (pBin .eql (tg 87) (cv (.int .i64 0))),
  ip 89 (pMov (tg 88)),
  gd 89 true (some 90) (ip 90 (pFaddr 1 (tg 6))),
  gd 89 true (some 91) (il 91 (tg 90) (mLoad1 (tg 90))),
  gd 89 true (some 92) (ip 92 (pBin .eql (tg 91) (cv (.int .u64 0)))),
  ip 93 (pPick (tg 89) (tg 92) (cv (.bool false))),
  ip 8 (pMov (tg 93))]
@[simp] def o_k_expression_11_ap := ops_rule (c := o_k_expression_11) rfl
def o_k_expression_12 : List IS := [ip 34 (pMov (tg 8)),
  ip 35 (pMov (tg 34)),
  gd 35 true (some 36) (ip 36 (pFaddr 0 (tg 6))),
  gd 35 true (some 37) (il 37 (tg 36) (mLoad1 (tg 36))),
  gd 35 true (some 38) (ip 38 (pBin .geq (tg 37) (cv (.int .i64 6)))),
  ip 39 (pPick (tg 35) (tg 38) (cv (.bool false))),
  ip 40 (pMov (tg 39)),
  gd 40 true (some 41) (ip 41 (pFaddr 0 (tg 6))),
  gd 40 true (some 42) (il 42 (tg 41) (mLoad1 (tg 41))),
  gd 40 true (some 43) (ip 43 (pBin .leq (tg 42) (cv (.int .i64 19)))),
  ip 44 (pPick (tg 40) (tg 43) (cv (.bool false))),
  ip 45 (pMov (tg 44)),
  gd 45 true (some 46) (ip 46 (pFaddr 1 (tg 6))),
  gd 45 true (some 47) (il 47 (tg 46) (mLoad1 (tg 46))),
  gd 45 true (some 48) (ip 48 (pBin .eql (tg 47) (cv (.int .u64 0)))),
  ip 49 (pPick (tg 45) (tg 48) (cv (.bool false))),
  ip 8 (pMov (tg 49))]
@[simp] def o_k_expression_12_ap := ops_rule (c := o_k_expression_12) rfl
def c_k_expression_2 : SC := sCond (tg 77) (sReg (seqI o_k_expression_11)) (sReg (seqI o_k_expression_12))
@[simp] def c_k_expression_2_ap := cond_rule (c := c_k_expression_2) rfl
def c_k_expression_3 : SC := sSeq (sReg (seqI o_k_expression_10)) c_k_expression_2
@[simp] def c_k_expression_3_ap := seq_rule (c := c_k_expression_3) rfl
def c_k_expression_4 : SC := sCond (tg 60) (sAny o_k_expression_9) c_k_expression_3
@[simp] def c_k_expression_4_ap := cond_rule (c := c_k_expression_4) rfl
def c_k_expression_5 : SC := sSeq (sReg (seqI o_k_expression_8)) c_k_expression_4
@[simp] def c_k_expression_5_ap := seq_rule (c := c_k_expression_5) rfl
def c_k_expression_6 : SC := sCond (tg 50) (sAny o_k_expression_7) c_k_expression_5
@[simp] def c_k_expression_6_ap := cond_rule (c := c_k_expression_6) rfl
def c_k_expression_7 : SC := sSeq (sReg (seqI o_k_expression_6)) c_k_expression_6
@[simp] def c_k_expression_7_ap := seq_rule (c := c_k_expression_7) rfl
def c_k_expression_8 : SC := sBlock 2 c_k_expression_7
@[simp] def c_k_expression_8_ap := block_rule (c := c_k_expression_8) rfl
def o_k_expression_13 : List IS := [ip 94 (pMov (tg 7)),
  ip 95 (pUn .not (tg 94)),
  ip 96 (pMov (tg 95)),
  gd 96 false (some 97) (ip 97 (pMov (tg 8))),
  gd 96 false (some 98) (ip 98 (pUn .not (tg 97))),
  ip 99 (pPick (tg 96) (cv (.bool true)) (tg 98))]
@[simp] def o_k_expression_13_ap := ops_rule (c := o_k_expression_13) rfl
def o_k_expression_14 : List IS := [ip 4 (pMov (cv (.bool false)))]
@[simp] def o_k_expression_14_ap := ops_rule (c := o_k_expression_14) rfl
def c_k_expression_9 : SC := sSeq (sReg (seqI o_k_expression_14)) sRet
@[simp] def c_k_expression_9_ap := seq_rule (c := c_k_expression_9) rfl
def c_k_expression_10 : SC := sCond (tg 99) c_k_expression_9 sSkip
@[simp] def c_k_expression_10_ap := cond_rule (c := c_k_expression_10) rfl
def c_k_expression_11 : SC := sSeq (sReg (seqI o_k_expression_13)) c_k_expression_10
@[simp] def c_k_expression_11_ap := seq_rule (c := c_k_expression_11) rfl
def c_k_expression_12 : SC := sSeq c_k_expression_8 c_k_expression_11
@[simp] def c_k_expression_12_ap := seq_rule (c := c_k_expression_12) rfl
def c_k_expression_13 : SC := sSeq (sAny o_k_expression_5) c_k_expression_12
@[simp] def c_k_expression_13_ap := seq_rule (c := c_k_expression_13) rfl
def c_k_expression_14 : SC := sSeq (sReg (seqI o_k_expression_4)) c_k_expression_13
@[simp] def c_k_expression_14_ap := seq_rule (c := c_k_expression_14) rfl
def c_k_expression_15 : SC := sBlock 1 c_k_expression_14
@[simp] def c_k_expression_15_ap := block_rule (c := c_k_expression_15) rfl
def o_k_expression_15 : List IS := [ip 100 (pBin .add (tg 11) (cv (.int .i64 1))),
  ip 11 (pMov (tg 100))]
@[simp] def o_k_expression_15_ap := ops_rule (c := o_k_expression_15) rfl
def c_k_expression_16 : SC := sSeq c_k_expression_15 (sReg (seqI o_k_expression_15))
@[simp] def c_k_expression_16_ap := seq_rule (c := c_k_expression_16) rfl
def c_k_expression_17 : SC := sSeq c_k_expression_1 c_k_expression_16
@[simp] def c_k_expression_17_ap := seq_rule (c := c_k_expression_17) rfl
def c_k_expression_18 : SC := sSeq (sReg (seqI o_k_expression_3)) c_k_expression_17
@[simp] def c_k_expression_18_ap := seq_rule (c := c_k_expression_18) rfl
def c_k_expression_19 : SC := sLoop c_k_expression_18
def c_k_expression_20 : SC := sBlock 0 c_k_expression_19
@[simp] def c_k_expression_20_ap := block_rule (c := c_k_expression_20) rfl
def c_k_expression_21 : SC := sSeq (sReg (seqI o_k_expression_2)) c_k_expression_20
@[simp] def c_k_expression_21_ap := seq_rule (c := c_k_expression_21) rfl
def o_k_expression_16 : List IS := [ip 101 (pMov (tg 0)),
  ip 102 (pLen (tg 101)),
  ip 103 (pBin .gtr (tg 102) (cv (.int .i64 0))),
  ip 104 (pMov (tg 103)),
  gd 104 true (some 105) (ip 105 (pMov (tg 0))),
  gd 104 true (some 106) (ip 106 (pLen (tg 105))),
  gd 104 true (some 107) (ip 107 (pBin .leq (tg 106) (cv (.int .i64 65536)))),
  ip 108 (pPick (tg 104) (tg 107) (cv (.bool false))),
  ip 109 (pMov (tg 108)),
  gd 109 true (some 110) (ip 110 (pMov (tg 0))),
  gd 109 true (some 111) (im 3 111 (mCall 84 [(tg 110)])),
  ip 112 (pPick (tg 109) (tg 111) (cv (.bool false))),
  ip 4 (pMov (tg 112))]
@[simp] def o_k_expression_16_ap := ops_rule (c := o_k_expression_16) rfl
def c_k_expression_22 : SC := sSeq (sReg (seqI o_k_expression_16)) sRet
@[simp] def c_k_expression_22_ap := seq_rule (c := c_k_expression_22) rfl
def c_k_expression_23 : SC := sSeq c_k_expression_21 c_k_expression_22
@[simp] def c_k_expression_23_ap := seq_rule (c := c_k_expression_23) rfl
def c_k_expression_24 : SC := sSeq (sReg (seqI o_k_expression_1)) c_k_expression_23
@[simp] def c_k_expression_24_ap := seq_rule (c := c_k_expression_24) rfl
def d_k_expression : DFn := ⟨c_k_expression_24, 113, [.t 4]⟩
theorem d_k_expression_ok : fnOf Try.prog 62 = some d_k_expression := by kernel_rfl
def o_h_truth_1 : List IS := [ip 2 (pMov (cv (.int .u64 0)))]
@[simp] def o_h_truth_1_ap := ops_rule (c := o_h_truth_1) rfl
def o_h_truth_2 : List IS := [ip 3 (pMov (tg 0))]
@[simp] def o_h_truth_2_ap := ops_rule (c := o_h_truth_2) rfl
def o_h_truth_3 : List IS := [ip 2 (pMov (cv (.int .u64 1)))]
@[simp] def o_h_truth_3_ap := ops_rule (c := o_h_truth_3) rfl
def c_h_truth_1 : SC := sSeq (sReg (seqI o_h_truth_3)) sRet
@[simp] def c_h_truth_1_ap := seq_rule (c := c_h_truth_1) rfl
def c_h_truth_2 : SC := sCond (tg 3) c_h_truth_1 sSkip
@[simp] def c_h_truth_2_ap := cond_rule (c := c_h_truth_2) rfl
def c_h_truth_3 : SC := sSeq (sReg (seqI o_h_truth_2)) c_h_truth_2
@[simp] def c_h_truth_3_ap := seq_rule (c := c_h_truth_3) rfl
def o_h_truth_4 : List IS := [ip 2 (pMov (cv (.int .u64 0)))]
@[simp] def o_h_truth_4_ap := ops_rule (c := o_h_truth_4) rfl
def c_h_truth_4 : SC := sSeq (sReg (seqI o_h_truth_4)) sRet
@[simp] def c_h_truth_4_ap := seq_rule (c := c_h_truth_4) rfl
def c_h_truth_5 : SC := sSeq c_h_truth_3 c_h_truth_4
@[simp] def c_h_truth_5_ap := seq_rule (c := c_h_truth_5) rfl
def c_h_truth_6 : SC := sSeq (sReg (seqI o_h_truth_1)) c_h_truth_5
@[simp] def c_h_truth_6_ap := seq_rule (c := c_h_truth_6) rfl
def d_h_truth : DFn := ⟨c_h_truth_6, 4, [.t 2]⟩
theorem d_h_truth_ok : fnOf Try.prog 63 = some d_h_truth := by kernel_rfl
def o_u_yes_1 : List IS := [ip 2 (pMov (cv (.int .u64 0)))]
@[simp] def o_u_yes_1_ap := ops_rule (c := o_u_yes_1) rfl
def o_u_yes_2 : List IS := [ip 3 (pMov (tg 0))]
@[simp] def o_u_yes_2_ap := ops_rule (c := o_u_yes_2) rfl
def o_u_yes_3 : List IS := [ip 2 (pMov (cv (.int .u64 1)))]
@[simp] def o_u_yes_3_ap := ops_rule (c := o_u_yes_3) rfl
def c_u_yes_1 : SC := sSeq (sReg (seqI o_u_yes_3)) sRet
@[simp] def c_u_yes_1_ap := seq_rule (c := c_u_yes_1) rfl
def c_u_yes_2 : SC := sCond (tg 3) c_u_yes_1 sSkip
@[simp] def c_u_yes_2_ap := cond_rule (c := c_u_yes_2) rfl
def c_u_yes_3 : SC := sSeq (sReg (seqI o_u_yes_2)) c_u_yes_2
@[simp] def c_u_yes_3_ap := seq_rule (c := c_u_yes_3) rfl
def o_u_yes_4 : List IS := [ip 2 (pMov (cv (.int .u64 0)))]
@[simp] def o_u_yes_4_ap := ops_rule (c := o_u_yes_4) rfl
def c_u_yes_4 : SC := sSeq (sReg (seqI o_u_yes_4)) sRet
@[simp] def c_u_yes_4_ap := seq_rule (c := c_u_yes_4) rfl
def c_u_yes_5 : SC := sSeq c_u_yes_3 c_u_yes_4
@[simp] def c_u_yes_5_ap := seq_rule (c := c_u_yes_5) rfl
def c_u_yes_6 : SC := sSeq (sReg (seqI o_u_yes_1)) c_u_yes_5
@[simp] def c_u_yes_6_ap := seq_rule (c := c_u_yes_6) rfl
def d_u_yes : DFn := ⟨c_u_yes_6, 4, [.t 2]⟩
theorem d_u_yes_ok : fnOf Try.prog 64 = some d_u_yes := by kernel_rfl
def o_k_once_1 : List IS := [ip 2 (pMov (cv (.bool false)))]
@[simp] def o_k_once_1_ap := ops_rule (c := o_k_once_1) rfl
def o_k_once_2 : List IS := [ip 8 (pMov (tg 0)),
  ip 9 (pLen (tg 8)),
  im 1 10 (mMkslice 1 8 [(.int .i64 0)] (tg 9) (tg 9)),
  ip 3 (pMov (tg 10))]
@[simp] def o_k_once_2_ap := ops_rule (c := o_k_once_2) rfl
def o_k_once_3 : List IS := [ip 11 (pMov (tg 0)),
  ip 12 (pLen (tg 11)),
  ip 13 (pMov (cv (.int .i64 0)))]
@[simp] def o_k_once_3_ap := ops_rule (c := o_k_once_3) rfl
def o_k_once_4 : List IS := [ip 14 (pBin .lss (tg 13) (tg 12))]
@[simp] def o_k_once_4_ap := ops_rule (c := o_k_once_4) rfl
def c_k_once_1 : SC := sCond (tg 14) sSkip (sExit 0)
@[simp] def c_k_once_1_ap := cond_rule (c := c_k_once_1) rfl
def o_k_once_5 : List IS := [ip 15 (pIaddrS 4 (tg 11) (tg 13)),
  il 16 (tg 15) (mLoadN 4 (tg 15)),
  im 1 5 (mAlloc [(.int .i64 0), (.int .u64 0), (.int .i64 0), (.int .i64 0)]),
  im0 3 (mStore 4 (tg 5) (tg 16))]
@[simp] def o_k_once_5_ap := ops_rule (c := o_k_once_5) rfl
def o_k_once_6 : List IS := [ip 17 (pFaddr 0 (tg 5)),
  il 18 (tg 17) (mLoad1 (tg 17)),
  ip 19 (pBin .geq (tg 18) (cv (.int .i64 3)))]
@[simp] def o_k_once_6_ap := ops_rule (c := o_k_once_6) rfl
def o_k_once_7 : List IS := [ip 20 (pMov (tg 3)),
  ip 21 (pFaddr 2 (tg 5)),
  il 22 (tg 21) (mLoad1 (tg 21)),
  ip 23 (pIaddrS 1 (tg 20) (tg 22)),
  il 24 (tg 23) (mLoad1 (tg 23)),
  ip 25 (pBin .add (tg 24) (cv (.int .i64 1))),
  ip 26 (pIaddrS 1 (tg 20) (tg 22)),
  im0 3 (mStore 1 (tg 26) (tg 25))]
@[simp] def o_k_once_7_ap := ops_rule (c := o_k_once_7) rfl
def c_k_once_2 : SC := sCond (tg 19) (sReg (seqI o_k_once_7)) sSkip
@[simp] def c_k_once_2_ap := cond_rule (c := c_k_once_2) rfl
def c_k_once_3 : SC := sSeq (sReg (seqI o_k_once_6)) c_k_once_2
@[simp] def c_k_once_3_ap := seq_rule (c := c_k_once_3) rfl
def o_k_once_8 : List IS := [ip 27 (pFaddr 0 (tg 5)),
  il 28 (tg 27) (mLoad1 (tg 27)),
  ip 29 (pBin .geq (tg 28) (cv (.int .i64 6)))]
@[simp] def o_k_once_8_ap := ops_rule (c := o_k_once_8) rfl
def o_k_once_9 : List IS := [ip 30 (pMov (tg 3)),
  ip 31 (pFaddr 3 (tg 5)),
  il 32 (tg 31) (mLoad1 (tg 31)),
  ip 33 (pIaddrS 1 (tg 30) (tg 32)),
  il 34 (tg 33) (mLoad1 (tg 33)),
  ip 35 (pBin .add (tg 34) (cv (.int .i64 1))),
  ip 36 (pIaddrS 1 (tg 30) (tg 32)),
  im0 3 (mStore 1 (tg 36) (tg 35))]
@[simp] def o_k_once_9_ap := ops_rule (c := o_k_once_9) rfl
def c_k_once_4 : SC := sCond (tg 29) (sReg (seqI o_k_once_9)) sSkip
@[simp] def c_k_once_4_ap := cond_rule (c := c_k_once_4) rfl
def c_k_once_5 : SC := sSeq (sReg (seqI o_k_once_8)) c_k_once_4
@[simp] def c_k_once_5_ap := seq_rule (c := c_k_once_5) rfl
def c_k_once_6 : SC := sSeq c_k_once_3 c_k_once_5
@[simp] def c_k_once_6_ap := seq_rule (c := c_k_once_6) rfl
def c_k_once_7 : SC := sSeq (sReg (seqI o_k_once_5)) c_k_once_6
@[simp] def c_k_once_7_ap := seq_rule (c := c_k_once_7) rfl
def c_k_once_8 : SC := sBlock 1 c_k_once_7
@[simp] def c_k_once_8_ap := block_rule (c := c_k_once_8) rfl
def o_k_once_10 : List IS := [ip 37 (pBin .add (tg 13) (cv (.int .i64 1))),
  ip 13 (pMov (tg 37))]
@[simp] def o_k_once_10_ap := ops_rule (c := o_k_once_10) rfl
def c_k_once_9 : SC := sSeq c_k_once_8 (sReg (seqI o_k_once_10))
@[simp] def c_k_once_9_ap := seq_rule (c := c_k_once_9) rfl
def c_k_once_10 : SC := sSeq c_k_once_1 c_k_once_9
@[simp] def c_k_once_10_ap := seq_rule (c := c_k_once_10) rfl
def c_k_once_11 : SC := sSeq (sReg (seqI o_k_once_4)) c_k_once_10
@[simp] def c_k_once_11_ap := seq_rule (c := c_k_once_11) rfl
def c_k_once_12 : SC := sLoop c_k_once_11
def c_k_once_13 : SC := sBlock 0 c_k_once_12
@[simp] def c_k_once_13_ap := block_rule (c := c_k_once_13) rfl
def c_k_once_14 : SC := sSeq (sReg (seqI o_k_once_3)) c_k_once_13
@[simp] def c_k_once_14_ap := seq_rule (c := c_k_once_14) rfl
def o_k_once_11 : List IS := [ip 38 (pMov (tg 3)),
  ip 39 (pLen (tg 38)),
  ip 40 (pMov (cv (.int .i64 0)))]
@[simp] def o_k_once_11_ap := ops_rule (c := o_k_once_11) rfl
def o_k_once_12 : List IS := [ip 41 (pBin .lss (tg 40) (tg 39))]
@[simp] def o_k_once_12_ap := ops_rule (c := o_k_once_12) rfl
def c_k_once_15 : SC := sCond (tg 41) sSkip (sExit 2)
@[simp] def c_k_once_15_ap := cond_rule (c := c_k_once_15) rfl
def o_k_once_13 : List IS := [ip 42 (pMov (tg 40)),
  ip 43 (pIaddrS 1 (tg 38) (tg 40)),
  il 44 (tg 43) (mLoad1 (tg 43)),
  ip 6 (pMov (tg 42)),
  ip 7 (pMov (tg 44))]
@[simp] def o_k_once_13_ap := ops_rule (c := o_k_once_13) rfl
def o_k_once_14 : List IS := [ip 45 (pMov (tg 7)),
  ip 46 (pBin .eql (tg 45) (cv (.int .i64 1))),
  ip 47 (pMov (tg 6)),
  ip 48 (pMov (tg 0)),
  ip 49 (pLen (tg 48)),
  ip 50 (pBin .sub (tg 49) (cv (.int .i64 1))),
  ip 51 (pBin .lss (tg 47) (tg 50)),
  ip 52 (pEqB true (tg 46) (tg 51)),
  ip 53 (pMov (tg 52)),
  gd 53 false (some 54) (ip 54 (pMov (tg 7))),
  gd 53 false (some 55) (ip 55 (pBin .gtr (tg 54) (cv (.int .i64 1)))),
  ip 56 (pPick (tg 53) (cv (.bool true)) (tg 55))]
@[simp] def o_k_once_14_ap := ops_rule (c := o_k_once_14) rfl
def o_k_once_15 : List IS := [ip 2 (pMov (cv (.bool false)))]
@[simp] def o_k_once_15_ap := ops_rule (c := o_k_once_15) rfl
def c_k_once_16 : SC := sSeq (sReg (seqI o_k_once_15)) sRet
@[simp] def c_k_once_16_ap := seq_rule (c := c_k_once_16) rfl
def c_k_once_17 : SC := sCond (tg 56) c_k_once_16 sSkip
@[simp] def c_k_once_17_ap := cond_rule (c := c_k_once_17) rfl
def c_k_once_18 : SC := sSeq (sReg (seqI o_k_once_14)) c_k_once_17
@[simp] def c_k_once_18_ap := seq_rule (c := c_k_once_18) rfl
def c_k_once_19 : SC := sSeq (sReg (seqI o_k_once_13)) c_k_once_18
@[simp] def c_k_once_19_ap := seq_rule (c := c_k_once_19) rfl
def c_k_once_20 : SC := sBlock 3 c_k_once_19
@[simp] def c_k_once_20_ap := block_rule (c := c_k_once_20) rfl
def o_k_once_16 : List IS := [ip 57 (pBin .add (tg 40) (cv (.int .i64 1))),
  ip 40 (pMov (tg 57))]
@[simp] def o_k_once_16_ap := ops_rule (c := o_k_once_16) rfl
def c_k_once_21 : SC := sSeq c_k_once_20 (sReg (seqI o_k_once_16))
@[simp] def c_k_once_21_ap := seq_rule (c := c_k_once_21) rfl
def c_k_once_22 : SC := sSeq c_k_once_15 c_k_once_21
@[simp] def c_k_once_22_ap := seq_rule (c := c_k_once_22) rfl
def c_k_once_23 : SC := sSeq (sReg (seqI o_k_once_12)) c_k_once_22
@[simp] def c_k_once_23_ap := seq_rule (c := c_k_once_23) rfl
def c_k_once_24 : SC := sLoop c_k_once_23
def c_k_once_25 : SC := sBlock 2 c_k_once_24
@[simp] def c_k_once_25_ap := block_rule (c := c_k_once_25) rfl
def c_k_once_26 : SC := sSeq (sReg (seqI o_k_once_11)) c_k_once_25
@[simp] def c_k_once_26_ap := seq_rule (c := c_k_once_26) rfl
def o_k_once_17 : List IS := [ip 2 (pMov (cv (.bool true)))]
@[simp] def o_k_once_17_ap := ops_rule (c := o_k_once_17) rfl
def c_k_once_27 : SC := sSeq (sReg (seqI o_k_once_17)) sRet
@[simp] def c_k_once_27_ap := seq_rule (c := c_k_once_27) rfl
def c_k_once_28 : SC := sSeq c_k_once_26 c_k_once_27
@[simp] def c_k_once_28_ap := seq_rule (c := c_k_once_28) rfl
def c_k_once_29 : SC := sSeq c_k_once_14 c_k_once_28
@[simp] def c_k_once_29_ap := seq_rule (c := c_k_once_29) rfl
def c_k_once_30 : SC := sSeq (sReg (seqI o_k_once_2)) c_k_once_29
@[simp] def c_k_once_30_ap := seq_rule (c := c_k_once_30) rfl
def c_k_once_31 : SC := sSeq (sReg (seqI o_k_once_1)) c_k_once_30
@[simp] def c_k_once_31_ap := seq_rule (c := c_k_once_31) rfl
def d_k_once : DFn := ⟨c_k_once_31, 58, [.t 2]⟩
theorem d_k_once_ok : fnOf Try.prog 84 = some d_k_once := by kernel_rfl
end
end Go.Sx
