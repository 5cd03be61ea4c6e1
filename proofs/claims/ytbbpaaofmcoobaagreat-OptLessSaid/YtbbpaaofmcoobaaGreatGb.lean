/- Compiled code. -/
import Derived.Test.YtbbpaaofmcoobaaGreatGa
import Derived.Test.YtbbpaaofmcoobaaGreatProg
import Derived.KernelRfl
set_option linter.unusedVariables false
set_option linter.unusedSimpArgs false
set_option linter.defProp false
/- Compiled code: printed by a program. -/
namespace Go.Sx
open Go.Dx Go.Proofs
noncomputable section
def oa7_1 : List IS := [ip 2 (pMov (cv (.slice none 0 0)))]
@[simp] def oa7_1_ap := ops_rule (c := oa7_1) rfl
def oa7_2 : List IS := [ip 3 (pMov (tg 0)),
  ip 4 (pLen (tg 3)),
  ip 5 (pBin .eql (tg 4) (cv (.int .i64 0)))]
@[simp] def oa7_2_ap := ops_rule (c := oa7_2) rfl
def oa7_3 : List IS := [ip 2 (pMov (cv (.slice none 0 0)))]
@[simp] def oa7_3_ap := ops_rule (c := oa7_3) rfl
def ca7_1 : SC := sSeq (sReg (seqI oa7_3)) sRet
@[simp] def ca7_1_ap := seq_rule (c := ca7_1) rfl
def ca7_2 : SC := sCond (tg 5) ca7_1 sSkip
@[simp] def ca7_2_ap := cond_rule (c := ca7_2) rfl
def ca7_3 : SC := sSeq (sReg (seqI oa7_2)) ca7_2
@[simp] def ca7_3_ap := seq_rule (c := ca7_3) rfl
def oa7_4 : List IS := [ip 6 (pMov (tg 0)),
  ip 7 (pMov (tg 0)),
  ip 8 (pLen (tg 7)),
  ip 9 (pBin .sub (tg 8) (cv (.int .i64 1))),
  im 3 10 (mCall 50 [(cv (.slice none 0 0)), (tg 6), (tg 9)]),
  ip 2 (pMov (tg 10))]
@[simp] def oa7_4_ap := ops_rule (c := oa7_4) rfl
def ca7_4 : SC := sSeq (sReg (seqI oa7_4)) sRet
@[simp] def ca7_4_ap := seq_rule (c := ca7_4) rfl
def ca7_5 : SC := sSeq ca7_3 ca7_4
@[simp] def ca7_5_ap := seq_rule (c := ca7_5) rfl
def ca7_6 : SC := sSeq (sReg (seqI oa7_1)) ca7_5
@[simp] def ca7_6_ap := seq_rule (c := ca7_6) rfl
def da7 : DFn := ⟨ca7_6, 11, [.t 2]⟩
theorem da7_ok : fnOf Tryz.prog 27 = some da7 := by kernel_rfl
def ob1_1 : List IS := [im 1 1 (mBox (tg 0)),
  ip 2 (pMov (cv (.bool false)))]
@[simp] def ob1_1_ap := ops_rule (c := ob1_1) rfl
def ob1_2 : List IS := [ip 7 (pFaddr 0 (tg 1)),
  il 8 (tg 7) (mLoad1 (tg 7)),
  ip 9 (pBin .lss (tg 8) (cv (.int .i64 0))),
  ip 10 (pMov (tg 9)),
  gd 10 false (some 11) (ip 11 (pFaddr 0 (tg 1))),
  gd 10 false (some 12) (il 12 (tg 11) (mLoad1 (tg 11))),
  gd 10 false (some 13) (ip 13 (pBin .gtr (tg 12) (cv (.int .i64 4096)))),
  ip 14 (pPick (tg 10) (cv (.bool true)) (tg 13)),
  ip 15 (pMov (tg 14)),
  gd 15 false (some 16) (ip 16 (pFaddr 1 (tg 1))),
  gd 15 false (some 17) (il 17 (tg 16) (mLoad1 (tg 16))),
  gd 15 false (some 18) (ip 18 (pLen (tg 17))),
  gd 15 false (some 19) (ip 19 (pBin .gtr (tg 18) (cv (.int .i64 64)))),
  ip 20 (pPick (tg 15) (cv (.bool true)) (tg 19))]
@[simp] def ob1_2_ap := ops_rule (c := ob1_2) rfl
def ob1_3 : List IS := [ip 2 (pMov (cv (.bool false)))]
@[simp] def ob1_3_ap := ops_rule (c := ob1_3) rfl
def cb1_1 : SC := sSeq (sReg (seqI ob1_3)) sRet
@[simp] def cb1_1_ap := seq_rule (c := cb1_1) rfl
def cb1_2 : SC := sCond (tg 20) cb1_1 sSkip
@[simp] def cb1_2_ap := cond_rule (c := cb1_2) rfl
def cb1_3 : SC := sSeq (sReg (seqI ob1_2)) cb1_2
@[simp] def cb1_3_ap := seq_rule (c := cb1_3) rfl
def ob1_4 : List IS := [ip 21 (pFaddr 1 (tg 1)),
  il 22 (tg 21) (mLoad1 (tg 21)),
  ip 23 (pLen (tg 22)),
  ip 24 (pMov (cv (.int .i64 0)))]
@[simp] def ob1_4_ap := ops_rule (c := ob1_4) rfl
def ob1_5 : List IS := [ip 25 (pBin .lss (tg 24) (tg 23))]
@[simp] def ob1_5_ap := ops_rule (c := ob1_5) rfl
def cb1_4 : SC := sCond (tg 25) sSkip (sExit 0)
@[simp] def cb1_4_ap := cond_rule (c := cb1_4) rfl
def ob1_6 : List IS := [ip 26 (pIaddrS 2 (tg 22) (tg 24)),
  il 27 (tg 26) (mLoadN 2 (tg 26)),
  im 1 4 (mAlloc [(.int .i64 0), (.slice none 0 0)]),
  im0 3 (mStore 2 (tg 4) (tg 27))]
@[simp] def ob1_6_ap := ops_rule (c := ob1_6) rfl
def ob1_7 : List IS := [ip 28 (pFaddr 0 (tg 4)),
  il 29 (tg 28) (mLoad1 (tg 28)),
  ip 30 (pBin .lss (tg 29) (cv (.int .i64 0))),
  ip 31 (pMov (tg 30)),
  gd 31 false (some 32) (ip 32 (pFaddr 0 (tg 4))),
  gd 31 false (some 33) (il 33 (tg 32) (mLoad1 (tg 32))),
  gd 31 false (some 34) (ip 34 (pBin .gtr (tg 33) (cv (.int .i64 24)))),
  ip 35 (pPick (tg 31) (cv (.bool true)) (tg 34)),
  ip 36 (pMov (tg 35)),
  gd 36 false (some 37) (ip 37 (pFaddr 1 (tg 4))),
  gd 36 false (some 38) (il 38 (tg 37) (mLoad1 (tg 37))),
  gd 36 false (some 39) (ip 39 (pLen (tg 38))),
  gd 36 false (some 40) (ip 40 (pBin .gtr (tg 39) (cv (.int .i64 65536)))),
  ip 41 (pPick (tg 36) (cv (.bool true)) (tg 40))]
@[simp] def ob1_7_ap := ops_rule (c := ob1_7) rfl
def ob1_8 : List IS := [ip 2 (pMov (cv (.bool false)))]
@[simp] def ob1_8_ap := ops_rule (c := ob1_8) rfl
def cb1_5 : SC := sSeq (sReg (seqI ob1_8)) sRet
@[simp] def cb1_5_ap := seq_rule (c := cb1_5) rfl
def cb1_6 : SC := sCond (tg 41) cb1_5 sSkip
@[simp] def cb1_6_ap := cond_rule (c := cb1_6) rfl
def cb1_7 : SC := sSeq (sReg (seqI ob1_7)) cb1_6
@[simp] def cb1_7_ap := seq_rule (c := cb1_7) rfl
def ob1_9 : List IS := [ip 42 (pFaddr 1 (tg 4)),
  il 43 (tg 42) (mLoad1 (tg 42)),
  ip 44 (pLen (tg 43)),
  ip 45 (pMov (cv (.int .i64 0)))]
@[simp] def ob1_9_ap := ops_rule (c := ob1_9) rfl
def ob1_10 : List IS := [ip 46 (pBin .lss (tg 45) (tg 44))]
@[simp] def ob1_10_ap := ops_rule (c := ob1_10) rfl
def cb1_8 : SC := sCond (tg 46) sSkip (sExit 2)
@[simp] def cb1_8_ap := cond_rule (c := cb1_8) rfl
def ob1_11 : List IS := [ip 47 (pIaddrS 11 (tg 43) (tg 45)),
  il 48 (tg 47) (mLoadN 11 (tg 47)),
  im 1 6 (mAlloc [(.int .i64 0), (.int .i64 0), (.int .i64 0), (.int .i64 0), (.slice none 0 0), (.slice none 0 0), (.slice none 0 0), (.int .i64 0), (.int .i64 0), (.int .i64 0), (.int .i64 0)]),
  im0 3 (mStore 11 (tg 6) (tg 48))]
@[simp] def ob1_11_ap := ops_rule (c := ob1_11) rfl
def ob1_12 : List IS := [il 49 (tg 6) (mLoadN 11 (tg 6)),
  il 50 (tg 1) (mLoadN 2 (tg 1)),
  il 51 (tg 4) (mLoadN 2 (tg 4)),
  im 3 52 (mCall 61 [(tg 49), (tg 50), (tg 51)]),
  ip 53 (pUn .not (tg 52))]
@[simp] def ob1_12_ap := ops_rule (c := ob1_12) rfl
def ob1_13 : List IS := [ip 2 (pMov (cv (.bool false)))]
@[simp] def ob1_13_ap := ops_rule (c := ob1_13) rfl
def cb1_9 : SC := sSeq (sReg (seqI ob1_13)) sRet
@[simp] def cb1_9_ap := seq_rule (c := cb1_9) rfl
def cb1_10 : SC := sCond (tg 53) cb1_9 sSkip
@[simp] def cb1_10_ap := cond_rule (c := cb1_10) rfl
def cb1_11 : SC := sSeq (sReg (seqI ob1_12)) cb1_10
@[simp] def cb1_11_ap := seq_rule (c := cb1_11) rfl
def cb1_12 : SC := sSeq (sReg (seqI ob1_11)) cb1_11
@[simp] def cb1_12_ap := seq_rule (c := cb1_12) rfl
def cb1_13 : SC := sBlock 3 cb1_12
@[simp] def cb1_13_ap := block_rule (c := cb1_13) rfl
def ob1_14 : List IS := [ip 54 (pBin .add (tg 45) (cv (.int .i64 1))),
  ip 45 (pMov (tg 54))]
@[simp] def ob1_14_ap := ops_rule (c := ob1_14) rfl
def cb1_14 : SC := sSeq cb1_13 (sReg (seqI ob1_14))
@[simp] def cb1_14_ap := seq_rule (c := cb1_14) rfl
def cb1_15 : SC := sSeq cb1_8 cb1_14
@[simp] def cb1_15_ap := seq_rule (c := cb1_15) rfl
def cb1_16 : SC := sSeq (sReg (seqI ob1_10)) cb1_15
@[simp] def cb1_16_ap := seq_rule (c := cb1_16) rfl
def cb1_17 : SC := sLoop cb1_16
def cb1_18 : SC := sBlock 2 cb1_17
@[simp] def cb1_18_ap := block_rule (c := cb1_18) rfl
def cb1_19 : SC := sSeq (sReg (seqI ob1_9)) cb1_18
@[simp] def cb1_19_ap := seq_rule (c := cb1_19) rfl
def cb1_20 : SC := sSeq cb1_7 cb1_19
@[simp] def cb1_20_ap := seq_rule (c := cb1_20) rfl
def cb1_21 : SC := sSeq (sReg (seqI ob1_6)) cb1_20
@[simp] def cb1_21_ap := seq_rule (c := cb1_21) rfl
def cb1_22 : SC := sBlock 1 cb1_21
@[simp] def cb1_22_ap := block_rule (c := cb1_22) rfl
def ob1_15 : List IS := [ip 55 (pBin .add (tg 24) (cv (.int .i64 1))),
  ip 24 (pMov (tg 55))]
@[simp] def ob1_15_ap := ops_rule (c := ob1_15) rfl
def cb1_23 : SC := sSeq cb1_22 (sReg (seqI ob1_15))
@[simp] def cb1_23_ap := seq_rule (c := cb1_23) rfl
def cb1_24 : SC := sSeq cb1_4 cb1_23
@[simp] def cb1_24_ap := seq_rule (c := cb1_24) rfl
def cb1_25 : SC := sSeq (sReg (seqI ob1_5)) cb1_24
@[simp] def cb1_25_ap := seq_rule (c := cb1_25) rfl
def cb1_26 : SC := sLoop cb1_25
def cb1_27 : SC := sBlock 0 cb1_26
@[simp] def cb1_27_ap := block_rule (c := cb1_27) rfl
def cb1_28 : SC := sSeq (sReg (seqI ob1_4)) cb1_27
@[simp] def cb1_28_ap := seq_rule (c := cb1_28) rfl
def ob1_16 : List IS := [ip 2 (pMov (cv (.bool true)))]
@[simp] def ob1_16_ap := ops_rule (c := ob1_16) rfl
def cb1_29 : SC := sSeq (sReg (seqI ob1_16)) sRet
@[simp] def cb1_29_ap := seq_rule (c := cb1_29) rfl
def cb1_30 : SC := sSeq cb1_28 cb1_29
@[simp] def cb1_30_ap := seq_rule (c := cb1_30) rfl
def cb1_31 : SC := sSeq cb1_3 cb1_30
@[simp] def cb1_31_ap := seq_rule (c := cb1_31) rfl
def cb1_32 : SC := sSeq (sReg (seqI ob1_1)) cb1_31
@[simp] def cb1_32_ap := seq_rule (c := cb1_32) rfl
def db1 : DFn := ⟨cb1_32, 56, [.t 2]⟩
theorem db1_ok : fnOf Tryz.prog 33 = some db1 := by kernel_rfl
def od4 : List IS := [ip 6 (pMov (cv (.slice none 0 0)))]
@[simp] def od4_ap := ops_rule (c := od4) rfl
def ob6_2 : List IS := [ip 13 (pMov (tg 1)),
  ip 14 (pMov (tg 2)),
  ip 15 (pIaddrS 4 (tg 13) (tg 14)),
  il 16 (tg 15) (mLoadN 4 (tg 15)),
  im 1 7 (mAlloc [(.int .i64 0), (.int .u64 0), (.int .i64 0), (.int .i64 0)]),
  im0 3 (mStore 4 (tg 7) (tg 16))]
@[simp] def ob6_2_ap := ops_rule (c := ob6_2) rfl
def ob6_3 : List IS := [ip 17 (pFaddr 0 (tg 7)),
  il 18 (tg 17) (mLoad1 (tg 17)),
  ip 19 (pBin .leq (tg 18) (cv (.int .i64 2)))]
@[simp] def ob6_3_ap := ops_rule (c := ob6_3) rfl
def ob6_4 : List IS := [ip 20 (pMov (tg 0)),
  il 21 (tg 7) (mLoadN 4 (tg 7)),
  im 1 22 (mBslice 4 1 (rep 1 [(.int .i64 0), (.int .u64 0), (.int .i64 0), (.int .i64 0)]) [(0, 4, (tg 21))]),
  im 3 23 (mAppend 4 32 (tg 20) (tg 22)),
  ip 6 (pMov (tg 23))]
@[simp] def ob6_4_ap := ops_rule (c := ob6_4) rfl
def cd4 : SC := sSeq (sReg (seqI ob6_4)) sRet
@[simp] def cd4_ap := seq_rule (c := cd4) rfl
def cb6_2 : SC := sCond (tg 19) cd4 sSkip
@[simp] def cb6_2_ap := cond_rule (c := cb6_2) rfl
def cb6_3 : SC := sSeq (sReg (seqI ob6_3)) cb6_2
@[simp] def cb6_3_ap := seq_rule (c := cb6_3) rfl
def ob6_5 : List IS := [ip 24 (pMov (tg 0)),
  ip 25 (pLen (tg 24)),
  ip 8 (pMov (tg 25))]
@[simp] def ob6_5_ap := ops_rule (c := ob6_5) rfl
def ob6_6 : List IS := [ip 26 (pMov (tg 0)),
  ip 27 (pMov (tg 1)),
  ip 28 (pFaddr 2 (tg 7)),
  il 29 (tg 28) (mLoad1 (tg 28)),
  im 3 30 (mCall 50 [(tg 26), (tg 27), (tg 29)]),
  ip 0 (pMov (tg 30))]
@[simp] def ob6_6_ap := ops_rule (c := ob6_6) rfl
def ob6_7 : List IS := [ip 31 (pFaddr 0 (tg 7)),
  il 32 (tg 31) (mLoad1 (tg 31)),
  ip 33 (pMov (tg 0)),
  ip 34 (pLen (tg 33)),
  ip 35 (pBin .sub (tg 34) (cv (.int .i64 1))),
  ip 36 (pBuild [(.int .i64 0), (.int .u64 0), (.int .i64 0), (.int .i64 0)] [(0, 1, (tg 32)), (2, 1, (tg 35))]),
  im 1 9 (mAlloc [(.int .i64 0), (.int .u64 0), (.int .i64 0), (.int .i64 0)]),
  im0 3 (mStore 4 (tg 9) (tg 36))]
@[simp] def ob6_7_ap := ops_rule (c := ob6_7) rfl
def ob6_8 : List IS := [ip 37 (pFaddr 0 (tg 7)),
  il 38 (tg 37) (mLoad1 (tg 37)),
  ip 39 (pBin .geq (tg 38) (cv (.int .i64 6)))]
@[simp] def ob6_8_ap := ops_rule (c := ob6_8) rfl
def ob6_9 : List IS := [ip 40 (pMov (tg 0)),
  ip 41 (pMov (tg 1)),
  ip 42 (pFaddr 3 (tg 7)),
  il 43 (tg 42) (mLoad1 (tg 42)),
  im 3 44 (mCall 50 [(tg 40), (tg 41), (tg 43)]),
  ip 0 (pMov (tg 44))]
@[simp] def ob6_9_ap := ops_rule (c := ob6_9) rfl
def ob6_10 : List IS := [ip 45 (pMov (tg 0)),
  ip 46 (pLen (tg 45)),
  ip 47 (pBin .sub (tg 46) (cv (.int .i64 1))),
  ip 48 (pFaddr 3 (tg 9)),
  im0 3 (mStore 1 (tg 48) (tg 47))]
@[simp] def ob6_10_ap := ops_rule (c := ob6_10) rfl
def cb6_4 : SC := sSeq (sReg (seqI ob6_9)) (sReg (seqI ob6_10))
@[simp] def cb6_4_ap := seq_rule (c := cb6_4) rfl
def cb6_5 : SC := sCond (tg 39) cb6_4 sSkip
@[simp] def cb6_5_ap := cond_rule (c := cb6_5) rfl
def cb6_6 : SC := sSeq (sReg (seqI ob6_8)) cb6_5
@[simp] def cb6_6_ap := seq_rule (c := cb6_6) rfl
def ob6_11 : List IS := [ip 49 (pMov (tg 0)),
  ip 50 (pMov (tg 8)),
  ip 51 (pSlice 4 (tg 49) (some (tg 50)) none none),
  im 3 52 (mCall 97 [(tg 51)]),
  ip 10 (pMov (tg 52))]
@[simp] def ob6_11_ap := ops_rule (c := ob6_11) rfl
def ob6_12 : List IS := [ip 53 (pMov (tg 10)),
  im 3 54 (mCall 98 [(tg 53), (cv (.func (.func 99) #[] #[]))])]
@[simp] def ob6_12_ap := ops_rule (c := ob6_12) rfl
def ob6_13 : List IS := [ip 55 (pMov (tg 0)),
  il 56 (tg 9) (mLoadN 4 (tg 9)),
  im 1 57 (mBslice 4 1 (rep 1 [(.int .i64 0), (.int .u64 0), (.int .i64 0), (.int .i64 0)]) [(0, 4, (tg 56))]),
  im 3 58 (mAppend 4 32 (tg 55) (tg 57)),
  ip 6 (pMov (tg 58))]
@[simp] def ob6_13_ap := ops_rule (c := ob6_13) rfl
def cb6_7 : SC := sSeq (sReg (seqI ob6_13)) sRet
@[simp] def cb6_7_ap := seq_rule (c := cb6_7) rfl
def cb6_8 : SC := sCond (tg 54) cb6_7 sSkip
@[simp] def cb6_8_ap := cond_rule (c := cb6_8) rfl
def cb6_9 : SC := sSeq (sReg (seqI ob6_12)) cb6_8
@[simp] def cb6_9_ap := seq_rule (c := cb6_9) rfl
def ob6_14 : List IS := [ip 59 (pFaddr 2 (tg 9)),
  il 60 (tg 59) (mLoad1 (tg 59)),
  ip 61 (pMov (tg 8)),
  ip 62 (pBin .sub (tg 60) (tg 61)),
  ip 63 (pFaddr 2 (tg 9)),
  im0 3 (mStore 1 (tg 63) (tg 62))]
@[simp] def ob6_14_ap := ops_rule (c := ob6_14) rfl
def ob6_15 : List IS := [ip 64 (pFaddr 0 (tg 7)),
  il 65 (tg 64) (mLoad1 (tg 64)),
  ip 66 (pBin .geq (tg 65) (cv (.int .i64 6)))]
@[simp] def ob6_15_ap := ops_rule (c := ob6_15) rfl
def ob6_16 : List IS := [ip 67 (pFaddr 3 (tg 9)),
  il 68 (tg 67) (mLoad1 (tg 67)),
  ip 69 (pMov (tg 8)),
  ip 70 (pBin .sub (tg 68) (tg 69)),
  ip 71 (pFaddr 3 (tg 9)),
  im0 3 (mStore 1 (tg 71) (tg 70))]
@[simp] def ob6_16_ap := ops_rule (c := ob6_16) rfl
def cb6_10 : SC := sCond (tg 66) (sReg (seqI ob6_16)) sSkip
@[simp] def cb6_10_ap := cond_rule (c := cb6_10) rfl
def cb6_11 : SC := sSeq (sReg (seqI ob6_15)) cb6_10
@[simp] def cb6_11_ap := seq_rule (c := cb6_11) rfl
def ob6_17 : List IS := [ip 73 (pMov (tg 10)),
  il 74 (tg 9) (mLoadN 4 (tg 9)),
  im 1 75 (mBslice 4 1 (rep 1 [(.int .i64 0), (.int .u64 0), (.int .i64 0), (.int .i64 0)]) [(0, 4, (tg 74))]),
  im 3 76 (mAppend 4 32 (tg 73) (tg 75)),
  im 3 77 (mCall 100 [(tg 76), (cv (.slice none 0 0))]),
  ip 72 (pMov (tg 77)),
  ip 78 (pExtract (tg 72) 0),
  ip 79 (pExtract (tg 72) 1),
  ip 11 (pMov (tg 78)),
  ip 12 (pMov (tg 79))]
@[simp] def ob6_17_ap := ops_rule (c := ob6_17) rfl
def ob6_18 : List IS := [ip 80 (pMov (tg 0)),
  ip 81 (pMov (tg 8)),
  ip 82 (pSlice 4 (tg 80) none (some (tg 81)) none),
  ip 83 (pMov (tg 11)),
  ip 84 (pBuild [(.int .i64 0), (.int .u64 0), (.int .i64 0), (.int .i64 0)] [(0, 1, (cv (.int .i64 1))), (1, 1, (tg 83))]),
  im 1 85 (mBslice 4 1 (rep 1 [(.int .i64 0), (.int .u64 0), (.int .i64 0), (.int .i64 0)]) [(0, 4, (tg 84))]),
  im 3 86 (mAppend 4 32 (tg 82) (tg 85)),
  ip 6 (pMov (tg 86))]
@[simp] def ob6_18_ap := ops_rule (c := ob6_18) rfl
def cb6_12 : SC := sSeq (sReg (seqI ob6_18)) sRet
@[simp] def cb6_12_ap := seq_rule (c := cb6_12) rfl
def cb6_13 : SC := sSeq (sReg (seqI ob6_17)) cb6_12
@[simp] def cb6_13_ap := seq_rule (c := cb6_13) rfl
def cb6_14 : SC := sSeq cb6_11 cb6_13
@[simp] def cb6_14_ap := seq_rule (c := cb6_14) rfl
def cb6_15 : SC := sSeq (sReg (seqI ob6_14)) cb6_14
@[simp] def cb6_15_ap := seq_rule (c := cb6_15) rfl
def cb6_16 : SC := sSeq cb6_9 cb6_15
@[simp] def cb6_16_ap := seq_rule (c := cb6_16) rfl
def cb6_17 : SC := sSeq (sReg (seqI ob6_11)) cb6_16
@[simp] def cb6_17_ap := seq_rule (c := cb6_17) rfl
def cb6_18 : SC := sSeq cb6_6 cb6_17
@[simp] def cb6_18_ap := seq_rule (c := cb6_18) rfl
def cb6_19 : SC := sSeq (sReg (seqI ob6_7)) cb6_18
@[simp] def cb6_19_ap := seq_rule (c := cb6_19) rfl
def cb6_20 : SC := sSeq (sReg (seqI ob6_6)) cb6_19
@[simp] def cb6_20_ap := seq_rule (c := cb6_20) rfl
def cb6_21 : SC := sSeq (sReg (seqI ob6_5)) cb6_20
@[simp] def cb6_21_ap := seq_rule (c := cb6_21) rfl
def cb6_22 : SC := sSeq cb6_3 cb6_21
@[simp] def cb6_22_ap := seq_rule (c := cb6_22) rfl
def cb6_23 : SC := sSeq (sReg (seqI ob6_2)) cb6_22
@[simp] def cb6_23_ap := seq_rule (c := cb6_23) rfl
def cb6_24 : SC := sSeq (sReg (seqI od4)) cb6_23
@[simp] def cb6_24_ap := seq_rule (c := cb6_24) rfl
def db6 : DFn := ⟨cb6_24, 87, [.t 6]⟩
theorem db6_ok : fnOf Tryz.prog 50 = some db6 := by kernel_rfl
def ob7_1 : List IS := [ip 4 (pMov (cv (.bool false)))]
@[simp] def ob7_1_ap := ops_rule (c := ob7_1) rfl
def ob7_2 : List IS := [ip 9 (pMov (tg 0)),
  ip 10 (pLen (tg 9)),
  ip 11 (pBin .eql (tg 10) (cv (.int .i64 0))),
  ip 12 (pMov (tg 11)),
  gd 12 false (some 13) (ip 13 (pMov (tg 0))),
  gd 12 false (some 14) (ip 14 (pLen (tg 13))),
  gd 12 false (some 15) (ip 15 (pBin .gtr (tg 14) (cv (.int .i64 65536)))),
  ip 16 (pPick (tg 12) (cv (.bool true)) (tg 15))]
@[simp] def ob7_2_ap := ops_rule (c := ob7_2) rfl
def ob7_3 : List IS := [ip 4 (pMov (cv (.bool false)))]
@[simp] def ob7_3_ap := ops_rule (c := ob7_3) rfl
def cb7_1 : SC := sSeq (sReg (seqI ob7_3)) sRet
@[simp] def cb7_1_ap := seq_rule (c := cb7_1) rfl
def cb7_2 : SC := sCond (tg 16) cb7_1 sSkip
@[simp] def cb7_2_ap := cond_rule (c := cb7_2) rfl
def cb7_3 : SC := sSeq (sReg (seqI ob7_2)) cb7_2
@[simp] def cb7_3_ap := seq_rule (c := cb7_3) rfl
def ob7_4 : List IS := [ip 17 (pMov (tg 0)),
  ip 18 (pLen (tg 17)),
  im 1 19 (mMkslice 1 1 [(.bool false)] (tg 18) (tg 18)),
  ip 5 (pMov (tg 19))]
@[simp] def ob7_4_ap := ops_rule (c := ob7_4) rfl
def ob7_5 : List IS := [ip 6 (pMov (cv (.int .i64 0)))]
@[simp] def ob7_5_ap := ops_rule (c := ob7_5) rfl
def ob7_6 : List IS := [ip 20 (pMov (tg 6)),
  ip 21 (pMov (tg 0)),
  ip 22 (pLen (tg 21)),
  ip 23 (pBin .lss (tg 20) (tg 22))]
@[simp] def ob7_6_ap := ops_rule (c := ob7_6) rfl
def cb7_4 : SC := sCond (tg 23) sSkip (sExit 0)
@[simp] def cb7_4_ap := cond_rule (c := cb7_4) rfl
def cb7_5 : SC := sSeq (sReg (seqI ob7_6)) cb7_4
@[simp] def cb7_5_ap := seq_rule (c := cb7_5) rfl
def ob7_7 : List IS := [ip 26 (pMov (tg 0)),
  ip 27 (pMov (tg 6)),
  ip 28 (pIaddrS 4 (tg 26) (tg 27)),
  il 29 (tg 28) (mLoadN 4 (tg 28)),
  im 1 7 (mAlloc [(.int .i64 0), (.int .u64 0), (.int .i64 0), (.int .i64 0)]),
  im0 3 (mStore 4 (tg 7) (tg 29))]
@[simp] def ob7_7_ap := ops_rule (c := ob7_7) rfl
def ob7_8 : List IS := [ip 30 (pFaddr 0 (tg 7)),
  il 31 (tg 30) (mLoad1 (tg 30)),
  ip 32 (pBin .eql (tg 31) (cv (.int .i64 1))),
  ip 33 (pMov (tg 32)),
  gd 33 false (some 34) (ip 34 (pFaddr 0 (tg 7))),
  gd 33 false (some 35) (il 35 (tg 34) (mLoad1 (tg 34))),
  gd 33 false (some 36) (ip 36 (pBin .eql (tg 35) (cv (.int .i64 2)))),
  ip 37 (pPick (tg 33) (cv (.bool true)) (tg 36))]
@[simp] def ob7_8_ap := ops_rule (c := ob7_8) rfl
def ob7_9 : List IS := [ip 38 (pFaddr 2 (tg 7)),
  il 39 (tg 38) (mLoad1 (tg 38)),
  ip 40 (pBin .neq (tg 39) (cv (.int .i64 0))),
  ip 41 (pMov (tg 40)),
  gd 41 false (some 42) (ip 42 (pFaddr 3 (tg 7))),
  gd 41 false (some 43) (il 43 (tg 42) (mLoad1 (tg 42))),
  gd 41 false (some 44) (ip 44 (pBin .neq (tg 43) (cv (.int .i64 0)))),
  ip 45 (pPick (tg 41) (cv (.bool true)) (tg 44)),
  ip 46 (pMov (tg 45)),
  gd 46 false (some 47) (ip 47 (pFaddr 0 (tg 7))),
  gd 46 false (some 48) (il 48 (tg 47) (mLoad1 (tg 47))),
  gd 46 false (some 49) (ip 49 (pBin .eql (tg 48) (cv (.int .i64 2)))),
  gd 46 false (some 50) (ip 50 (pMov (tg 49))),
  gd 50 true (some 51) (ip 51 (pFaddr 1 (tg 7))),
  gd 50 true (some 52) (il 52 (tg 51) (mLoad1 (tg 51))),
  gd 50 true (some 53) (ip 53 (pMov (tg 1))),
  gd 50 true (some 54) (ip 54 (pConvI .u64 (tg 53))),
  gd 50 true (some 55) (ip 55 (pBin .geq (tg 52) (tg 54))),
  gd 46 false (some 56) (ip 56 (pPick (tg 50) (tg 55) (cv (.bool false)))),
  ip 57 (pPick (tg 46) (cv (.bool true)) (tg 56))]
@[simp] def ob7_9_ap := ops_rule (c := ob7_9) rfl
def ob7_10 : List IS := [ip 4 (pMov (cv (.bool false)))]
@[simp] def ob7_10_ap := ops_rule (c := ob7_10) rfl
def cb7_6 : SC := sSeq (sReg (seqI ob7_10)) sRet
@[simp] def cb7_6_ap := seq_rule (c := cb7_6) rfl
def cb7_7 : SC := sCond (tg 57) cb7_6 sSkip
@[simp] def cb7_7_ap := cond_rule (c := cb7_7) rfl
def cb7_8 : SC := sSeq (sReg (seqI ob7_9)) cb7_7
@[simp] def cb7_8_ap := seq_rule (c := cb7_8) rfl
def cb7_9 : SC := sSeq cb7_8 (sExit 1)
@[simp] def cb7_9_ap := seq_rule (c := cb7_9) rfl
def cb7_10 : SC := sCond (tg 37) cb7_9 sSkip
@[simp] def cb7_10_ap := cond_rule (c := cb7_10) rfl
def cb7_11 : SC := sSeq (sReg (seqI ob7_8)) cb7_10
@[simp] def cb7_11_ap := seq_rule (c := cb7_11) rfl
def ob7_11 : List IS := [ip 58 (pFaddr 0 (tg 7)),
  il 59 (tg 58) (mLoad1 (tg 58)),
  ip 60 (pBin .lss (tg 59) (cv (.int .i64 1))),
  ip 61 (pMov (tg 60)),
  gd 61 false (some 62) (ip 62 (pFaddr 0 (tg 7))),
  gd 61 false (some 63) (il 63 (tg 62) (mLoad1 (tg 62))),
  gd 61 false (some 64) (ip 64 (pBin .gtr (tg 63) (cv (.int .i64 19)))),
  ip 65 (pPick (tg 61) (cv (.bool true)) (tg 64)),
  ip 66 (pMov (tg 65)),
  gd 66 false (some 67) (ip 67 (pFaddr 1 (tg 7))),
  gd 66 false (some 68) (il 68 (tg 67) (mLoad1 (tg 67))),
  gd 66 false (some 69) (ip 69 (pBin .neq (tg 68) (cv (.int .u64 0)))),
  ip 70 (pPick (tg 66) (cv (.bool true)) (tg 69)),
  ip 71 (pMov (tg 70)),
  gd 71 false (some 72) (ip 72 (pFaddr 2 (tg 7))),
  gd 71 false (some 73) (il 73 (tg 72) (mLoad1 (tg 72))),
  gd 71 false (some 74) (ip 74 (pBin .lss (tg 73) (cv (.int .i64 0)))),
  ip 75 (pPick (tg 71) (cv (.bool true)) (tg 74)),
  ip 76 (pMov (tg 75)),
  gd 76 false (some 77) (ip 77 (pFaddr 2 (tg 7))),
  gd 76 false (some 78) (il 78 (tg 77) (mLoad1 (tg 77))),
  gd 76 false (some 79) (ip 79 (pMov (tg 6))),
  gd 76 false (some 80) (ip 80 (pBin .geq (tg 78) (tg 79))),
  ip 81 (pPick (tg 76) (cv (.bool true)) (tg 80)),
  ip 82 (pMov (tg 81)),
  gd 82 false (some 83) (ip 83 (pMov (tg 5))),
  gd 82 false (some 84) (ip 84 (pFaddr 2 (tg 7))),
  gd 82 false (some 85) (il 85 (tg 84) (mLoad1 (tg 84))),
  gd 82 false (some 86) (ip 86 (pIaddrS 1 (tg 83) (tg 85))),
  gd 82 false (some 87) (il 87 (tg 86) (mLoad1 (tg 86))),
  ip 88 (pPick (tg 82) (cv (.bool true)) (tg 87))]
@[simp] def ob7_11_ap := ops_rule (c := ob7_11) rfl
def ob7_12 : List IS := [ip 4 (pMov (cv (.bool false)))]
@[simp] def ob7_12_ap := ops_rule (c := ob7_12) rfl
def cb7_12 : SC := sSeq (sReg (seqI ob7_12)) sRet
@[simp] def cb7_12_ap := seq_rule (c := cb7_12) rfl
def cb7_13 : SC := sCond (tg 88) cb7_12 sSkip
@[simp] def cb7_13_ap := cond_rule (c := cb7_13) rfl
def cb7_14 : SC := sSeq (sReg (seqI ob7_11)) cb7_13
@[simp] def cb7_14_ap := seq_rule (c := cb7_14) rfl
def ob7_13 : List IS := [ip 89 (pMov (tg 5)),
  ip 90 (pFaddr 2 (tg 7)),
  il 91 (tg 90) (mLoad1 (tg 90)),
  ip 92 (pIaddrS 1 (tg 89) (tg 91)),
  im0 3 (mStore 1 (tg 92) (cv (.bool true)))]
@[simp] def ob7_13_ap := ops_rule (c := ob7_13) rfl
def ob7_14 : List IS := [ip 93 (pFaddr 0 (tg 7)),
  il 94 (tg 93) (mLoad1 (tg 93)),
  ip 95 (pBin .leq (tg 94) (cv (.int .i64 5)))]
@[simp] def ob7_14_ap := ops_rule (c := ob7_14) rfl
def ob7_15 : List IS := [ip 96 (pFaddr 3 (tg 7)),
  il 97 (tg 96) (mLoad1 (tg 96)),
  ip 98 (pBin .neq (tg 97) (cv (.int .i64 0)))]
@[simp] def ob7_15_ap := ops_rule (c := ob7_15) rfl
def ob7_16 : List IS := [ip 4 (pMov (cv (.bool false)))]
@[simp] def ob7_16_ap := ops_rule (c := ob7_16) rfl
def cb7_15 : SC := sSeq (sReg (seqI ob7_16)) sRet
@[simp] def cb7_15_ap := seq_rule (c := cb7_15) rfl
def cb7_16 : SC := sCond (tg 98) cb7_15 sSkip
@[simp] def cb7_16_ap := cond_rule (c := cb7_16) rfl
def cb7_17 : SC := sSeq (sReg (seqI ob7_15)) cb7_16
@[simp] def cb7_17_ap := seq_rule (c := cb7_17) rfl
def cb7_18 : SC := sSeq cb7_17 (sExit 1)
@[simp] def cb7_18_ap := seq_rule (c := cb7_18) rfl
def cb7_19 : SC := sCond (tg 95) cb7_18 sSkip
@[simp] def cb7_19_ap := cond_rule (c := cb7_19) rfl
def cb7_20 : SC := sSeq (sReg (seqI ob7_14)) cb7_19
@[simp] def cb7_20_ap := seq_rule (c := cb7_20) rfl
def ob7_17 : List IS := [ip 99 (pFaddr 3 (tg 7)),
  il 100 (tg 99) (mLoad1 (tg 99)),
  ip 101 (pBin .lss (tg 100) (cv (.int .i64 0))),
  ip 102 (pMov (tg 101)),
  gd 102 false (some 103) (ip 103 (pFaddr 3 (tg 7))),
  gd 102 false (some 104) (il 104 (tg 103) (mLoad1 (tg 103))),
  gd 102 false (some 105) (ip 105 (pMov (tg 6))),
  gd 102 false (some 106) (ip 106 (pBin .geq (tg 104) (tg 105))),
  ip 107 (pPick (tg 102) (cv (.bool true)) (tg 106)),
  ip 108 (pMov (tg 107)),
  gd 108 false (some 109) (ip 109 (pMov (tg 5))),
  gd 108 false (some 110) (ip 110 (pFaddr 3 (tg 7))),
  gd 108 false (some 111) (il 111 (tg 110) (mLoad1 (tg 110))),
  gd 108 false (some 112) (ip 112 (pIaddrS 1 (tg 109) (tg 111))),
  gd 108 false (some 113) (il 113 (tg 112) (mLoad1 (tg 112))),
  ip 114 (pPick (tg 108) (cv (.bool true)) (tg 113))]
@[simp] def ob7_17_ap := ops_rule (c := ob7_17) rfl
def ob7_18 : List IS := [ip 4 (pMov (cv (.bool false)))]
@[simp] def ob7_18_ap := ops_rule (c := ob7_18) rfl
def cb7_21 : SC := sSeq (sReg (seqI ob7_18)) sRet
@[simp] def cb7_21_ap := seq_rule (c := cb7_21) rfl
def cb7_22 : SC := sCond (tg 114) cb7_21 sSkip
@[simp] def cb7_22_ap := cond_rule (c := cb7_22) rfl
def cb7_23 : SC := sSeq (sReg (seqI ob7_17)) cb7_22
@[simp] def cb7_23_ap := seq_rule (c := cb7_23) rfl
def ob7_19 : List IS := [ip 115 (pMov (tg 5)),
  ip 116 (pFaddr 3 (tg 7)),
  il 117 (tg 116) (mLoad1 (tg 116)),
  ip 118 (pIaddrS 1 (tg 115) (tg 117)),
  im0 3 (mStore 1 (tg 118) (cv (.bool true)))]
@[simp] def ob7_19_ap := ops_rule (c := ob7_19) rfl
def cb7_24 : SC := sSeq cb7_23 (sReg (seqI ob7_19))
@[simp] def cb7_24_ap := seq_rule (c := cb7_24) rfl
def cb7_25 : SC := sSeq cb7_20 cb7_24
@[simp] def cb7_25_ap := seq_rule (c := cb7_25) rfl
def cb7_26 : SC := sSeq (sReg (seqI ob7_13)) cb7_25
@[simp] def cb7_26_ap := seq_rule (c := cb7_26) rfl
def cb7_27 : SC := sSeq cb7_14 cb7_26
@[simp] def cb7_27_ap := seq_rule (c := cb7_27) rfl
def cb7_28 : SC := sSeq cb7_11 cb7_27
@[simp] def cb7_28_ap := seq_rule (c := cb7_28) rfl
def cb7_29 : SC := sSeq (sReg (seqI ob7_7)) cb7_28
@[simp] def cb7_29_ap := seq_rule (c := cb7_29) rfl
def cb7_30 : SC := sBlock 1 cb7_29
@[simp] def cb7_30_ap := block_rule (c := cb7_30) rfl
def ob7_20 : List IS := [ip 24 (pMov (tg 6)),
  ip 25 (pBin .add (tg 24) (cv (.int .i64 1))),
  ip 6 (pMov (tg 25))]
@[simp] def ob7_20_ap := ops_rule (c := ob7_20) rfl
def cb7_31 : SC := sSeq cb7_30 (sReg (seqI ob7_20))
@[simp] def cb7_31_ap := seq_rule (c := cb7_31) rfl
def cb7_32 : SC := sSeq cb7_5 cb7_31
@[simp] def cb7_32_ap := seq_rule (c := cb7_32) rfl
def cb7_33 : SC := sLoop cb7_32
def cb7_34 : SC := sBlock 0 cb7_33
@[simp] def cb7_34_ap := block_rule (c := cb7_34) rfl
def cb7_35 : SC := sSeq (sReg (seqI ob7_5)) cb7_34
@[simp] def cb7_35_ap := seq_rule (c := cb7_35) rfl
def ob7_21 : List IS := [ip 8 (pMov (cv (.int .i64 0)))]
@[simp] def ob7_21_ap := ops_rule (c := ob7_21) rfl
def ob7_22 : List IS := [ip 119 (pMov (tg 8)),
  ip 120 (pMov (tg 0)),
  ip 121 (pLen (tg 120)),
  ip 122 (pBin .sub (tg 121) (cv (.int .i64 1))),
  ip 123 (pBin .lss (tg 119) (tg 122))]
@[simp] def ob7_22_ap := ops_rule (c := ob7_22) rfl
def cb7_36 : SC := sCond (tg 123) sSkip (sExit 2)
@[simp] def cb7_36_ap := cond_rule (c := cb7_36) rfl
def cb7_37 : SC := sSeq (sReg (seqI ob7_22)) cb7_36
@[simp] def cb7_37_ap := seq_rule (c := cb7_37) rfl
def ob7_23 : List IS := [ip 126 (pMov (tg 5)),
  ip 127 (pMov (tg 8)),
  ip 128 (pIaddrS 1 (tg 126) (tg 127)),
  il 129 (tg 128) (mLoad1 (tg 128)),
  ip 130 (pUn .not (tg 129))]
@[simp] def ob7_23_ap := ops_rule (c := ob7_23) rfl
def ob7_24 : List IS := [ip 4 (pMov (cv (.bool false)))]
@[simp] def ob7_24_ap := ops_rule (c := ob7_24) rfl
def cb7_38 : SC := sSeq (sReg (seqI ob7_24)) sRet
@[simp] def cb7_38_ap := seq_rule (c := cb7_38) rfl
def cb7_39 : SC := sCond (tg 130) cb7_38 sSkip
@[simp] def cb7_39_ap := cond_rule (c := cb7_39) rfl
def cb7_40 : SC := sSeq (sReg (seqI ob7_23)) cb7_39
@[simp] def cb7_40_ap := seq_rule (c := cb7_40) rfl
def cb7_41 : SC := sBlock 3 cb7_40
@[simp] def cb7_41_ap := block_rule (c := cb7_41) rfl
def ob7_25 : List IS := [ip 124 (pMov (tg 8)),
  ip 125 (pBin .add (tg 124) (cv (.int .i64 1))),
  ip 8 (pMov (tg 125))]
@[simp] def ob7_25_ap := ops_rule (c := ob7_25) rfl
def cb7_42 : SC := sSeq cb7_41 (sReg (seqI ob7_25))
@[simp] def cb7_42_ap := seq_rule (c := cb7_42) rfl
def cb7_43 : SC := sSeq cb7_37 cb7_42
@[simp] def cb7_43_ap := seq_rule (c := cb7_43) rfl
def cb7_44 : SC := sLoop cb7_43
def cb7_45 : SC := sBlock 2 cb7_44
@[simp] def cb7_45_ap := block_rule (c := cb7_45) rfl
def cb7_46 : SC := sSeq (sReg (seqI ob7_21)) cb7_45
@[simp] def cb7_46_ap := seq_rule (c := cb7_46) rfl
def ob7_26 : List IS := [ip 4 (pMov (cv (.bool true)))]
@[simp] def ob7_26_ap := ops_rule (c := ob7_26) rfl
def cb7_47 : SC := sSeq (sReg (seqI ob7_26)) sRet
@[simp] def cb7_47_ap := seq_rule (c := cb7_47) rfl
def cb7_48 : SC := sSeq cb7_46 cb7_47
@[simp] def cb7_48_ap := seq_rule (c := cb7_48) rfl
def cb7_49 : SC := sSeq cb7_35 cb7_48
@[simp] def cb7_49_ap := seq_rule (c := cb7_49) rfl
def cb7_50 : SC := sSeq (sReg (seqI ob7_4)) cb7_49
@[simp] def cb7_50_ap := seq_rule (c := cb7_50) rfl
def cb7_51 : SC := sSeq cb7_3 cb7_50
@[simp] def cb7_51_ap := seq_rule (c := cb7_51) rfl
def cb7_52 : SC := sSeq (sReg (seqI ob7_1)) cb7_51
@[simp] def cb7_52_ap := seq_rule (c := cb7_52) rfl
def db7 : DFn := ⟨cb7_52, 131, [.t 4]⟩
theorem db7_ok : fnOf Tryz.prog 51 = some db7 := by kernel_rfl
def oc0_1 : List IS := [im 1 3 (mBox (tg 0)),
  im 1 4 (mBox (tg 1)),
  im 1 5 (mBox (tg 2)),
  ip 6 (pMov (cv (.bool false)))]
@[simp] def oc0_1_ap := ops_rule (c := oc0_1) rfl
def oc0_2 : List IS := [ip 8 (pFaddr 0 (tg 3)),
  il 9 (tg 8) (mLoad1 (tg 8)),
  ip 10 (pBin .lss (tg 9) (cv (.int .i64 1))),
  ip 11 (pMov (tg 10)),
  gd 11 false (some 12) (ip 12 (pFaddr 0 (tg 3))),
  gd 11 false (some 13) (il 13 (tg 12) (mLoad1 (tg 12))),
  gd 11 false (some 14) (ip 14 (pBin .gtr (tg 13) (cv (.int .i64 10)))),
  ip 15 (pPick (tg 11) (cv (.bool true)) (tg 14)),
  ip 16 (pMov (tg 15)),
  gd 16 false (some 17) (ip 17 (pFaddr 0 (tg 3))),
  gd 16 false (some 18) (il 18 (tg 17) (mLoad1 (tg 17))),
  gd 16 false (some 19) (ip 19 (pFaddr 7 (tg 3))),
  gd 16 false (some 20) (il 20 (tg 19) (mLoad1 (tg 19))),
  gd 16 false (some 21) (im 3 21 (mCall 105 [(tg 18), (tg 20)])),
  gd 16 false (some 22) (ip 22 (pUn .not (tg 21))),
  ip 23 (pPick (tg 16) (cv (.bool true)) (tg 22))]
@[simp] def oc0_2_ap := ops_rule (c := oc0_2) rfl
def oc0_3 : List IS := [ip 6 (pMov (cv (.bool false)))]
@[simp] def oc0_3_ap := ops_rule (c := oc0_3) rfl
def cc0_1 : SC := sSeq (sReg (seqI oc0_3)) sRet
@[simp] def cc0_1_ap := seq_rule (c := cc0_1) rfl
def cc0_2 : SC := sCond (tg 23) cc0_1 sSkip
@[simp] def cc0_2_ap := cond_rule (c := cc0_2) rfl
def cc0_3 : SC := sSeq (sReg (seqI oc0_2)) cc0_2
@[simp] def cc0_3_ap := seq_rule (c := cc0_3) rfl
def oc0_4 : List IS := [ip 24 (pFaddr 0 (tg 3)),
  il 25 (tg 24) (mLoad1 (tg 24)),
  im 3 26 (mCall 106 [(tg 25)]),
  im 1 7 (mAlloc [(.bool false), (.bool false), (.bool false), (.bool false), (.bool false)]),
  im0 3 (mStore 5 (tg 7) (tg 26))]
@[simp] def oc0_4_ap := ops_rule (c := oc0_4) rfl
def oc0_5 : List IS := [ip 28 (pFaddr 0 (tg 7)),
  il 29 (tg 28) (mLoad1 (tg 28)),
  ip 30 (pMov (tg 29)),
  gd 30 true (some 31) (ip 31 (pFaddr 1 (tg 3))),
  gd 30 true (some 32) (il 32 (tg 31) (mLoad1 (tg 31))),
  gd 30 true (some 33) (ip 33 (pBin .lss (tg 32) (cv (.int .i64 0)))),
  gd 30 true (some 34) (ip 34 (pMov (tg 33))),
  gd 34 false (some 35) (ip 35 (pFaddr 1 (tg 3))),
  gd 34 false (some 36) (il 36 (tg 35) (mLoad1 (tg 35))),
  gd 34 false (some 37) (ip 37 (pFaddr 0 (tg 5))),
  gd 34 false (some 38) (il 38 (tg 37) (mLoad1 (tg 37))),
  gd 34 false (some 39) (ip 39 (pBin .geq (tg 36) (tg 38))),
  gd 30 true (some 40) (ip 40 (pPick (tg 34) (cv (.bool true)) (tg 39))),
  ip 41 (pPick (tg 30) (tg 40) (cv (.bool false))),
  ip 27 (pMov (tg 41))]
@[simp] def oc0_5_ap := ops_rule (c := oc0_5) rfl
def oc0_6 : List IS := [ip 42 (pFaddr 0 (tg 7)),
  il 43 (tg 42) (mLoad1 (tg 42)),
  ip 44 (pUn .not (tg 43)),
  ip 45 (pMov (tg 44)),
  gd 45 true (some 46) (ip 46 (pFaddr 1 (tg 3))),
  gd 45 true (some 47) (il 47 (tg 46) (mLoad1 (tg 46))),
  gd 45 true (some 48) (ip 48 (pBin .neq (tg 47) (cv (.int .i64 0)))),
  ip 49 (pPick (tg 45) (tg 48) (cv (.bool false))),
  ip 27 (pMov (tg 49))]
@[simp] def oc0_6_ap := ops_rule (c := oc0_6) rfl
def cc0_4 : SC := sCond (tg 27) sSkip (sReg (seqI oc0_6))
@[simp] def cc0_4_ap := cond_rule (c := cc0_4) rfl
def cc0_5 : SC := sSeq (sReg (seqI oc0_5)) cc0_4
@[simp] def cc0_5_ap := seq_rule (c := cc0_5) rfl
def oc0_7 : List IS := [ip 6 (pMov (cv (.bool false)))]
@[simp] def oc0_7_ap := ops_rule (c := oc0_7) rfl
def cc0_6 : SC := sSeq (sReg (seqI oc0_7)) sRet
@[simp] def cc0_6_ap := seq_rule (c := cc0_6) rfl
def oc0_8 : List IS := [ip 51 (pFaddr 1 (tg 7)),
  il 52 (tg 51) (mLoad1 (tg 51)),
  ip 53 (pMov (tg 52)),
  gd 53 true (some 54) (il 54 (tg 3) (mLoadN 11 (tg 3))),
  gd 53 true (some 55) (il 55 (tg 4) (mLoadN 2 (tg 4))),
  gd 53 true (some 56) (ip 56 (pFaddr 0 (tg 5))),
  gd 53 true (some 57) (il 57 (tg 56) (mLoad1 (tg 56))),
  gd 53 true (some 58) (im 3 58 (mCall 107 [(tg 54), (tg 55), (tg 57)])),
  gd 53 true (some 59) (ip 59 (pUn .not (tg 58))),
  ip 60 (pPick (tg 53) (tg 59) (cv (.bool false))),
  ip 50 (pMov (tg 60))]
@[simp] def oc0_8_ap := ops_rule (c := oc0_8) rfl
def oc0_9 : List IS := [ip 61 (pFaddr 1 (tg 7)),
  il 62 (tg 61) (mLoad1 (tg 61)),
  ip 63 (pUn .not (tg 62)),
  ip 64 (pMov (tg 63)),
  gd 64 true (some 65) (ip 65 (pFaddr 2 (tg 3))),
  gd 64 true (some 66) (il 66 (tg 65) (mLoad1 (tg 65))),
  gd 64 true (some 67) (ip 67 (pBin .neq (tg 66) (cv (.int .i64 0)))),
  gd 64 true (some 68) (ip 68 (pMov (tg 67))),
  gd 68 false (some 69) (ip 69 (pFaddr 3 (tg 3))),
  gd 68 false (some 70) (il 70 (tg 69) (mLoad1 (tg 69))),
  gd 68 false (some 71) (ip 71 (pBin .neq (tg 70) (cv (.int .i64 0)))),
  gd 64 true (some 72) (ip 72 (pPick (tg 68) (cv (.bool true)) (tg 71))),
  gd 64 true (some 73) (ip 73 (pMov (tg 72))),
  gd 73 false (some 74) (ip 74 (pFaddr 4 (tg 3))),
  gd 73 false (some 75) (il 75 (tg 74) (mLoad1 (tg 74))),
  gd 73 false (some 76) (ip 76 (pLen (tg 75))),
  gd 73 false (some 77) (ip 77 (pBin .gtr (tg 76) (cv (.int .i64 0)))),
  gd 64 true (some 78) (ip 78 (pPick (tg 73) (cv (.bool true)) (tg 77))),
  ip 79 (pPick (tg 64) (tg 78) (cv (.bool false))),
  ip 50 (pMov (tg 79))]
@[simp] def oc0_9_ap := ops_rule (c := oc0_9) rfl
def cc0_7 : SC := sCond (tg 50) sSkip (sReg (seqI oc0_9))
@[simp] def cc0_7_ap := cond_rule (c := cc0_7) rfl
def cc0_8 : SC := sSeq (sReg (seqI oc0_8)) cc0_7
@[simp] def cc0_8_ap := seq_rule (c := cc0_8) rfl
def oc0_10 : List IS := [ip 6 (pMov (cv (.bool false)))]
@[simp] def oc0_10_ap := ops_rule (c := oc0_10) rfl
def cc0_9 : SC := sSeq (sReg (seqI oc0_10)) sRet
@[simp] def cc0_9_ap := seq_rule (c := cc0_9) rfl
def oc0_11 : List IS := [ip 81 (pFaddr 2 (tg 7)),
  il 82 (tg 81) (mLoad1 (tg 81)),
  ip 83 (pFaddr 5 (tg 3)),
  il 84 (tg 83) (mLoad1 (tg 83)),
  ip 85 (pLen (tg 84)),
  ip 86 (pBin .gtr (tg 85) (cv (.int .i64 0))),
  ip 87 (pEqB true (tg 82) (tg 86)),
  ip 80 (pMov (tg 87))]
@[simp] def oc0_11_ap := ops_rule (c := oc0_11) rfl
def oc0_12 : List IS := [ip 88 (pFaddr 3 (tg 7)),
  il 89 (tg 88) (mLoad1 (tg 88)),
  ip 90 (pFaddr 6 (tg 3)),
  il 91 (tg 90) (mLoad1 (tg 90)),
  ip 92 (pLen (tg 91)),
  ip 93 (pBin .gtr (tg 92) (cv (.int .i64 0))),
  ip 94 (pEqB true (tg 89) (tg 93)),
  ip 80 (pMov (tg 94))]
@[simp] def oc0_12_ap := ops_rule (c := oc0_12) rfl
def oc0_13 : List IS := [ip 95 (pFaddr 2 (tg 7)),
  il 96 (tg 95) (mLoad1 (tg 95)),
  ip 97 (pMov (tg 96)),
  gd 97 true (some 98) (ip 98 (pFaddr 5 (tg 3))),
  gd 97 true (some 99) (il 99 (tg 98) (mLoad1 (tg 98))),
  gd 97 true (some 100) (ip 100 (pFaddr 0 (tg 5))),
  gd 97 true (some 101) (il 101 (tg 100) (mLoad1 (tg 100))),
  gd 97 true (some 102) (im 3 102 (mCall 108 [(tg 99), (tg 101)])),
  gd 97 true (some 103) (ip 103 (pUn .not (tg 102))),
  ip 104 (pPick (tg 97) (tg 103) (cv (.bool false))),
  ip 80 (pMov (tg 104))]
@[simp] def oc0_13_ap := ops_rule (c := oc0_13) rfl
def oc0_14 : List IS := [ip 105 (pFaddr 3 (tg 7)),
  il 106 (tg 105) (mLoad1 (tg 105)),
  ip 107 (pMov (tg 106)),
  gd 107 true (some 108) (ip 108 (pFaddr 6 (tg 3))),
  gd 107 true (some 109) (il 109 (tg 108) (mLoad1 (tg 108))),
  gd 107 true (some 110) (ip 110 (pFaddr 0 (tg 5))),
  gd 107 true (some 111) (il 111 (tg 110) (mLoad1 (tg 110))),
  gd 107 true (some 112) (im 3 112 (mCall 108 [(tg 109), (tg 111)])),
  gd 107 true (some 113) (ip 113 (pUn .not (tg 112))),
  ip 114 (pPick (tg 107) (tg 113) (cv (.bool false))),
  ip 80 (pMov (tg 114))]
@[simp] def oc0_14_ap := ops_rule (c := oc0_14) rfl
def cc0_10 : SC := sCond (tg 80) sSkip (sReg (seqI oc0_14))
@[simp] def cc0_10_ap := cond_rule (c := cc0_10) rfl
def cc0_11 : SC := sSeq (sReg (seqI oc0_13)) cc0_10
@[simp] def cc0_11_ap := seq_rule (c := cc0_11) rfl
def cc0_12 : SC := sCond (tg 80) sSkip cc0_11
@[simp] def cc0_12_ap := cond_rule (c := cc0_12) rfl
def cc0_13 : SC := sSeq (sReg (seqI oc0_12)) cc0_12
@[simp] def cc0_13_ap := seq_rule (c := cc0_13) rfl
def cc0_14 : SC := sCond (tg 80) sSkip cc0_13
@[simp] def cc0_14_ap := cond_rule (c := cc0_14) rfl
def cc0_15 : SC := sSeq (sReg (seqI oc0_11)) cc0_14
@[simp] def cc0_15_ap := seq_rule (c := cc0_15) rfl
def oc0_15 : List IS := [ip 6 (pMov (cv (.bool false)))]
@[simp] def oc0_15_ap := ops_rule (c := oc0_15) rfl
def cc0_16 : SC := sSeq (sReg (seqI oc0_15)) sRet
@[simp] def cc0_16_ap := seq_rule (c := cc0_16) rfl
def oc0_16 : List IS := [ip 116 (pFaddr 4 (tg 7)),
  il 117 (tg 116) (mLoad1 (tg 116)),
  ip 118 (pMov (tg 117)),
  gd 118 true (some 119) (ip 119 (pFaddr 8 (tg 3))),
  gd 118 true (some 120) (il 120 (tg 119) (mLoad1 (tg 119))),
  gd 118 true (some 121) (ip 121 (pBin .lss (tg 120) (cv (.int .i64 0)))),
  gd 118 true (some 122) (ip 122 (pMov (tg 121))),
  gd 122 false (some 123) (ip 123 (pFaddr 8 (tg 3))),
  gd 122 false (some 124) (il 124 (tg 123) (mLoad1 (tg 123))),
  gd 122 false (some 125) (ip 125 (pFaddr 1 (tg 5))),
  gd 122 false (some 126) (il 126 (tg 125) (mLoad1 (tg 125))),
  gd 122 false (some 127) (ip 127 (pLen (tg 126))),
  gd 122 false (some 128) (ip 128 (pBin .gtr (tg 124) (tg 127))),
  gd 118 true (some 129) (ip 129 (pPick (tg 122) (cv (.bool true)) (tg 128))),
  ip 130 (pPick (tg 118) (tg 129) (cv (.bool false))),
  ip 115 (pMov (tg 130))]
@[simp] def oc0_16_ap := ops_rule (c := oc0_16) rfl
def oc0_17 : List IS := [ip 131 (pFaddr 4 (tg 7)),
  il 132 (tg 131) (mLoad1 (tg 131)),
  ip 133 (pUn .not (tg 132)),
  ip 134 (pMov (tg 133)),
  gd 134 true (some 135) (ip 135 (pFaddr 8 (tg 3))),
  gd 134 true (some 136) (il 136 (tg 135) (mLoad1 (tg 135))),
  gd 134 true (some 137) (ip 137 (pBin .neq (tg 136) (cv (.int .i64 0)))),
  ip 138 (pPick (tg 134) (tg 137) (cv (.bool false))),
  ip 115 (pMov (tg 138))]
@[simp] def oc0_17_ap := ops_rule (c := oc0_17) rfl
def cc0_17 : SC := sCond (tg 115) sSkip (sReg (seqI oc0_17))
@[simp] def cc0_17_ap := cond_rule (c := cc0_17) rfl
def cc0_18 : SC := sSeq (sReg (seqI oc0_16)) cc0_17
@[simp] def cc0_18_ap := seq_rule (c := cc0_18) rfl
def oc0_18 : List IS := [ip 6 (pMov (cv (.bool false)))]
@[simp] def oc0_18_ap := ops_rule (c := oc0_18) rfl
def cc0_19 : SC := sSeq (sReg (seqI oc0_18)) sRet
@[simp] def cc0_19_ap := seq_rule (c := cc0_19) rfl
def cc0_20 : SC := sCond (tg 115) cc0_19 sSkip
@[simp] def cc0_20_ap := cond_rule (c := cc0_20) rfl
def cc0_21 : SC := sSeq cc0_18 cc0_20
@[simp] def cc0_21_ap := seq_rule (c := cc0_21) rfl
def cc0_22 : SC := sCond (tg 80) cc0_16 cc0_21
@[simp] def cc0_22_ap := cond_rule (c := cc0_22) rfl
def cc0_23 : SC := sSeq cc0_15 cc0_22
@[simp] def cc0_23_ap := seq_rule (c := cc0_23) rfl
def cc0_24 : SC := sCond (tg 50) cc0_9 cc0_23
@[simp] def cc0_24_ap := cond_rule (c := cc0_24) rfl
def cc0_25 : SC := sSeq cc0_8 cc0_24
@[simp] def cc0_25_ap := seq_rule (c := cc0_25) rfl
def cc0_26 : SC := sCond (tg 27) cc0_6 cc0_25
@[simp] def cc0_26_ap := cond_rule (c := cc0_26) rfl
def cc0_27 : SC := sSeq cc0_5 cc0_26
@[simp] def cc0_27_ap := seq_rule (c := cc0_27) rfl
def cc0_28 : SC := sBlock 0 cc0_27
@[simp] def cc0_28_ap := block_rule (c := cc0_28) rfl
def oc0_19 : List IS := [ip 6 (pMov (cv (.bool true)))]
@[simp] def oc0_19_ap := ops_rule (c := oc0_19) rfl
def cc0_29 : SC := sSeq (sReg (seqI oc0_19)) sRet
@[simp] def cc0_29_ap := seq_rule (c := cc0_29) rfl
def cc0_30 : SC := sSeq cc0_28 cc0_29
@[simp] def cc0_30_ap := seq_rule (c := cc0_30) rfl
def cc0_31 : SC := sSeq (sReg (seqI oc0_4)) cc0_30
@[simp] def cc0_31_ap := seq_rule (c := cc0_31) rfl
def cc0_32 : SC := sSeq cc0_3 cc0_31
@[simp] def cc0_32_ap := seq_rule (c := cc0_32) rfl
def cc0_33 : SC := sSeq (sReg (seqI oc0_1)) cc0_32
@[simp] def cc0_33_ap := seq_rule (c := cc0_33) rfl
def dc0 : DFn := ⟨cc0_33, 139, [.t 6]⟩
theorem dc0_ok : fnOf Tryz.prog 61 = some dc0 := by kernel_rfl
def od2_1 : List IS := [ip 2 (pMov (cv (.slice none 0 0)))]
@[simp] def od2_1_ap := ops_rule (c := od2_1) rfl
def od2_2 : List IS := [ip 3 (pMov (tg 0)),
  ip 4 (pEqN false nilS true (tg 3) (cv (.slice none 0 0)))]
@[simp] def od2_2_ap := ops_rule (c := od2_2) rfl
def od2_3 : List IS := [ip 2 (pMov (cv (.slice none 0 0)))]
def cd2_1 : SC := sSeq (sReg (seqI od2_3)) sRet
def cd2_2 : SC := sCond (tg 4) cd2_1 sSkip
@[simp] def cd2_2_ap := cond_rule (c := cd2_2) rfl
def cd2_3 : SC := sSeq (sReg (seqI od2_2)) cd2_2
@[simp] def cd2_3_ap := seq_rule (c := cd2_3) rfl
def od2_4 : List IS := [im 1 5 (mBslice 4 0 (rep 0 [(.int .i64 0), (.int .u64 0), (.int .i64 0), (.int .i64 0)]) []),
  ip 6 (pMov (tg 0)),
  im 3 7 (mAppend 4 32 (tg 5) (tg 6)),
  ip 2 (pMov (tg 7))]
@[simp] def od2_4_ap := ops_rule (c := od2_4) rfl
def cd2_4 : SC := sSeq (sReg (seqI od2_4)) sRet
@[simp] def cd2_4_ap := seq_rule (c := cd2_4) rfl
def cd2_5 : SC := sSeq cd2_3 cd2_4
@[simp] def cd2_5_ap := seq_rule (c := cd2_5) rfl
def cd2_6 : SC := sSeq (sReg (seqI od2_1)) cd2_5
@[simp] def cd2_6_ap := seq_rule (c := cd2_6) rfl
def dd2 : DFn := ⟨cd2_6, 8, [.t 2]⟩
theorem dd2_ok : fnOf Tryz.prog 97 = some dd2 := by kernel_rfl
def od3_1 : List IS := [ip 4 (pMov (cv (.bool false)))]
@[simp] def od3_1_ap := ops_rule (c := od3_1) rfl
def od3_2 : List IS := [ip 5 (pMov (tg 0)),
  ip 6 (pMov (tg 1)),
  im 3 7 (mCall 150 [(tg 5), (tg 6)]),
  ip 8 (pBin .geq (tg 7) (cv (.int .i64 0))),
  ip 4 (pMov (tg 8))]
@[simp] def od3_2_ap := ops_rule (c := od3_2) rfl
def cd3_1 : SC := sSeq (sReg (seqI od3_2)) sRet
@[simp] def cd3_1_ap := seq_rule (c := cd3_1) rfl
def cd3_2 : SC := sSeq (sReg (seqI od3_1)) cd3_1
@[simp] def cd3_2_ap := seq_rule (c := cd3_2) rfl
def dd3 : DFn := ⟨cd3_2, 9, [.t 4]⟩
theorem dd3_ok : fnOf Tryz.prog 98 = some dd3 := by kernel_rfl
def od4_1 : List IS := [im 1 1 (mBox (tg 0)),
  ip 2 (pMov (cv (.bool false)))]
@[simp] def od4_1_ap := ops_rule (c := od4_1) rfl
def od4_2 : List IS := [ip 3 (pFaddr 0 (tg 1)),
  il 4 (tg 3) (mLoad1 (tg 3)),
  ip 5 (pBin .neq (tg 4) (cv (.int .i64 1))),
  ip 2 (pMov (tg 5))]
@[simp] def od4_2_ap := ops_rule (c := od4_2) rfl
def cd4_1 : SC := sSeq (sReg (seqI od4_2)) sRet
@[simp] def cd4_1_ap := seq_rule (c := cd4_1) rfl
def cd4_2 : SC := sSeq (sReg (seqI od4_1)) cd4_1
@[simp] def cd4_2_ap := seq_rule (c := cd4_2) rfl
def dd4 : DFn := ⟨cd4_2, 6, [.t 2]⟩
theorem dd4_ok : fnOf Tryz.prog 99 = some dd4 := by kernel_rfl
def od5_1 : List IS := [ip 4 (pMov (cv (.int .u64 0))),
  ip 5 (pMov (cv (.int .i64 0)))]
@[simp] def od5_1_ap := ops_rule (c := od5_1) rfl
def od5_2 : List IS := [ip 6 (pMov (tg 1)),
  ip 7 (pLen (tg 6)),
  ip 8 (pBin .gtr (tg 7) (cv (.int .i64 24))),
  ip 9 (pMov (tg 8)),
  gd 9 false (some 10) (ip 10 (pMov (tg 1))),
  gd 9 false (some 11) (ip 11 (pLen (tg 10))),
  gd 9 false (some 12) (ip 12 (pMov (tg 0))),
  gd 9 false (some 13) (ip 13 (pBuild [(.int .i64 0), (.int .i64 0), (.int .i64 0), (.int .i64 0), (.slice none 0 0), (.slice none 0 0), (.slice none 0 0), (.int .i64 0), (.int .i64 0), (.int .i64 0), (.int .i64 0)] [(0, 1, (cv (.int .i64 8))), (5, 1, (tg 12))])),
  gd 9 false (some 14) (im 1 14 (mBslice 11 1 (rep 1 [(.int .i64 0), (.int .i64 0), (.int .i64 0), (.int .i64 0), (.slice none 0 0), (.slice none 0 0), (.slice none 0 0), (.int .i64 0), (.int .i64 0), (.int .i64 0), (.int .i64 0)]) [(0, 11, (tg 13))])),
  gd 9 false (some 15) (ip 15 (pBuild [(.int .i64 0), (.slice none 0 0)] [(0, 1, (tg 11)), (1, 1, (tg 14))])),
  gd 9 false (some 16) (im 1 16 (mBslice 2 1 (rep 1 [(.int .i64 0), (.slice none 0 0)]) [(0, 2, (tg 15))])),
  gd 9 false (some 17) (ip 17 (pBuild [(.int .i64 0), (.slice none 0 0)] [(1, 1, (tg 16))])),
  gd 9 false (some 18) (im 3 18 (mCall 33 [(tg 17)])),
  gd 9 false (some 19) (ip 19 (pUn .not (tg 18))),
  ip 20 (pPick (tg 9) (cv (.bool true)) (tg 19))]
@[simp] def od5_2_ap := ops_rule (c := od5_2) rfl
def od5_3 : List IS := [ip 4 (pMov (cv (.int .u64 0))),
  ip 5 (pMov (cv (.int .i64 1)))]
@[simp] def od5_3_ap := ops_rule (c := od5_3) rfl
def cd5_1 : SC := sSeq (sReg (seqI od5_3)) sRet
@[simp] def cd5_1_ap := seq_rule (c := cd5_1) rfl
def cd5_2 : SC := sCond (tg 20) cd5_1 sSkip
@[simp] def cd5_2_ap := cond_rule (c := cd5_2) rfl
def cd5_3 : SC := sSeq (sReg (seqI od5_2)) cd5_2
@[simp] def cd5_3_ap := seq_rule (c := cd5_3) rfl
def od5_4 : List IS := [ip 21 (pMov (tg 0)),
  ip 22 (pMov (tg 1)),
  im 3 23 (mCall 151 [(tg 21), (tg 22)]),
  ip 4 (pMov (tg 23)),
  ip 5 (pMov (cv (.int .i64 0)))]
@[simp] def od5_4_ap := ops_rule (c := od5_4) rfl
def cd5_4 : SC := sSeq (sReg (seqI od5_4)) sRet
@[simp] def cd5_4_ap := seq_rule (c := cd5_4) rfl
def cd5_5 : SC := sSeq cd5_3 cd5_4
@[simp] def cd5_5_ap := seq_rule (c := cd5_5) rfl
def cd5_6 : SC := sSeq (sReg (seqI od5_1)) cd5_5
@[simp] def cd5_6_ap := seq_rule (c := cd5_6) rfl
def dd5 : DFn := ⟨cd5_6, 24, [.t 4, .t 5]⟩
theorem dd5_ok : fnOf Tryz.prog 100 = some dd5 := by kernel_rfl
def od7_1 : List IS := [ip 4 (pMov (cv (.bool false)))]
@[simp] def od7_1_ap := ops_rule (c := od7_1) rfl
def od7_2 : List IS := [ip 5 (pMov (tg 0))]
@[simp] def od7_2_ap := ops_rule (c := od7_2) rfl
def od7_3 : List IS := [ip 7 (pBin .eql (tg 5) (cv (.int .i64 2))),
  ip 6 (pMov (tg 7))]
@[simp] def od7_3_ap := ops_rule (c := od7_3) rfl
def od7_4 : List IS := [ip 8 (pMov (tg 1)),
  ip 9 (pBin .eql (tg 8) (cv (.int .i64 1))),
  ip 10 (pMov (tg 9)),
  gd 10 false (some 11) (ip 11 (pMov (tg 1))),
  gd 10 false (some 12) (ip 12 (pBin .eql (tg 11) (cv (.int .i64 2)))),
  ip 13 (pPick (tg 10) (cv (.bool true)) (tg 12)),
  ip 14 (pMov (tg 13)),
  gd 14 false (some 15) (ip 15 (pMov (tg 1))),
  gd 14 false (some 16) (ip 16 (pBin .eql (tg 15) (cv (.int .i64 5)))),
  ip 17 (pPick (tg 14) (cv (.bool true)) (tg 16)),
  ip 4 (pMov (tg 17))]
@[simp] def od7_4_ap := ops_rule (c := od7_4) rfl
def cd7_1 : SC := sSeq (sReg (seqI od7_4)) sRet
@[simp] def cd7_1_ap := seq_rule (c := cd7_1) rfl
def od7_5 : List IS := [ip 19 (pBin .eql (tg 5) (cv (.int .i64 3))),
  ip 18 (pMov (tg 19))]
@[simp] def od7_5_ap := ops_rule (c := od7_5) rfl
def od7_6 : List IS := [ip 20 (pMov (tg 1)),
  ip 21 (pBin .eql (tg 20) (cv (.int .i64 1))),
  ip 22 (pMov (tg 21)),
  gd 22 false (some 23) (ip 23 (pMov (tg 1))),
  gd 22 false (some 24) (ip 24 (pBin .eql (tg 23) (cv (.int .i64 3)))),
  ip 25 (pPick (tg 22) (cv (.bool true)) (tg 24)),
  ip 26 (pMov (tg 25)),
  gd 26 false (some 27) (ip 27 (pMov (tg 1))),
  gd 26 false (some 28) (ip 28 (pBin .eql (tg 27) (cv (.int .i64 5)))),
  ip 29 (pPick (tg 26) (cv (.bool true)) (tg 28)),
  ip 4 (pMov (tg 29))]
@[simp] def od7_6_ap := ops_rule (c := od7_6) rfl
def cd7_2 : SC := sSeq (sReg (seqI od7_6)) sRet
@[simp] def cd7_2_ap := seq_rule (c := cd7_2) rfl
def od7_7 : List IS := [ip 31 (pBin .eql (tg 5) (cv (.int .i64 4))),
  ip 30 (pMov (tg 31))]
@[simp] def od7_7_ap := ops_rule (c := od7_7) rfl
def od7_8 : List IS := [ip 32 (pBin .eql (tg 5) (cv (.int .i64 5))),
  ip 30 (pMov (tg 32))]
@[simp] def od7_8_ap := ops_rule (c := od7_8) rfl
def od7_9 : List IS := [ip 33 (pBin .eql (tg 5) (cv (.int .i64 6))),
  ip 30 (pMov (tg 33))]
@[simp] def od7_9_ap := ops_rule (c := od7_9) rfl
def cd7_3 : SC := sCond (tg 30) sSkip (sReg (seqI od7_9))
@[simp] def cd7_3_ap := cond_rule (c := cd7_3) rfl
def cd7_4 : SC := sSeq (sReg (seqI od7_8)) cd7_3
@[simp] def cd7_4_ap := seq_rule (c := cd7_4) rfl
def cd7_5 : SC := sCond (tg 30) sSkip cd7_4
@[simp] def cd7_5_ap := cond_rule (c := cd7_5) rfl
def cd7_6 : SC := sSeq (sReg (seqI od7_7)) cd7_5
@[simp] def cd7_6_ap := seq_rule (c := cd7_6) rfl
def od7_10 : List IS := [ip 34 (pMov (tg 1)),
  ip 35 (pBin .geq (tg 34) (cv (.int .i64 1))),
  ip 36 (pMov (tg 35)),
  gd 36 true (some 37) (ip 37 (pMov (tg 1))),
  gd 36 true (some 38) (ip 38 (pBin .leq (tg 37) (cv (.int .i64 5)))),
  ip 39 (pPick (tg 36) (tg 38) (cv (.bool false))),
  ip 4 (pMov (tg 39))]
@[simp] def od7_10_ap := ops_rule (c := od7_10) rfl
def cd7_7 : SC := sSeq (sReg (seqI od7_10)) sRet
@[simp] def cd7_7_ap := seq_rule (c := cd7_7) rfl
def od7_11 : List IS := [ip 41 (pBin .eql (tg 5) (cv (.int .i64 7))),
  ip 40 (pMov (tg 41))]
@[simp] def od7_11_ap := ops_rule (c := od7_11) rfl
def od7_12 : List IS := [ip 42 (pMov (tg 1)),
  ip 43 (pBin .geq (tg 42) (cv (.int .i64 2))),
  ip 44 (pMov (tg 43)),
  gd 44 true (some 45) (ip 45 (pMov (tg 1))),
  gd 44 true (some 46) (ip 46 (pBin .leq (tg 45) (cv (.int .i64 5)))),
  ip 47 (pPick (tg 44) (tg 46) (cv (.bool false))),
  ip 4 (pMov (tg 47))]
@[simp] def od7_12_ap := ops_rule (c := od7_12) rfl
def cd7_8 : SC := sSeq (sReg (seqI od7_12)) sRet
@[simp] def cd7_8_ap := seq_rule (c := cd7_8) rfl
def cd7_9 : SC := sCond (tg 40) cd7_8 sSkip
@[simp] def cd7_9_ap := cond_rule (c := cd7_9) rfl
def cd7_10 : SC := sSeq (sReg (seqI od7_11)) cd7_9
@[simp] def cd7_10_ap := seq_rule (c := cd7_10) rfl
def cd7_11 : SC := sCond (tg 30) cd7_7 cd7_10
@[simp] def cd7_11_ap := cond_rule (c := cd7_11) rfl
def cd7_12 : SC := sSeq cd7_6 cd7_11
@[simp] def cd7_12_ap := seq_rule (c := cd7_12) rfl
def cd7_13 : SC := sCond (tg 18) cd7_2 cd7_12
@[simp] def cd7_13_ap := cond_rule (c := cd7_13) rfl
def cd7_14 : SC := sSeq (sReg (seqI od7_5)) cd7_13
@[simp] def cd7_14_ap := seq_rule (c := cd7_14) rfl
def cd7_15 : SC := sCond (tg 6) cd7_1 cd7_14
@[simp] def cd7_15_ap := cond_rule (c := cd7_15) rfl
def cd7_16 : SC := sSeq (sReg (seqI od7_3)) cd7_15
@[simp] def cd7_16_ap := seq_rule (c := cd7_16) rfl
def cd7_17 : SC := sBlock 0 cd7_16
@[simp] def cd7_17_ap := block_rule (c := cd7_17) rfl
def cd7_18 : SC := sSeq (sReg (seqI od7_2)) cd7_17
@[simp] def cd7_18_ap := seq_rule (c := cd7_18) rfl
def od7_13 : List IS := [ip 48 (pMov (tg 1)),
  ip 49 (pBin .eql (tg 48) (cv (.int .i64 0))),
  ip 4 (pMov (tg 49))]
@[simp] def od7_13_ap := ops_rule (c := od7_13) rfl
def cd7_19 : SC := sSeq (sReg (seqI od7_13)) sRet
@[simp] def cd7_19_ap := seq_rule (c := cd7_19) rfl
def cd7_20 : SC := sSeq cd7_18 cd7_19
@[simp] def cd7_20_ap := seq_rule (c := cd7_20) rfl
def cd7_21 : SC := sSeq (sReg (seqI od7_1)) cd7_20
@[simp] def cd7_21_ap := seq_rule (c := cd7_21) rfl
def dd7 : DFn := ⟨cd7_21, 50, [.t 4]⟩
theorem dd7_ok : fnOf Tryz.prog 105 = some dd7 := by kernel_rfl
def od8_1 : List IS := [im 1 2 (mAlloc [(.bool false), (.bool false), (.bool false), (.bool false), (.bool false)])]
@[simp] def od8_1_ap := ops_rule (c := od8_1) rfl
def od8_2 : List IS := [ip 3 (pBuild [(.bool false), (.bool false), (.bool false), (.bool false), (.bool false)] [(0, 1, (cv (.bool true))), (2, 1, (cv (.bool true)))]),
  ip 4 (pBuild [(.bool false), (.bool false), (.bool false), (.bool false), (.bool false)] [(0, 1, (cv (.bool true))), (1, 1, (cv (.bool true)))]),
  ip 5 (pBuild [(.bool false), (.bool false), (.bool false), (.bool false), (.bool false)] [(1, 1, (cv (.bool true))), (2, 1, (cv (.bool true)))]),
  ip 6 (pBuild [(.bool false), (.bool false), (.bool false), (.bool false), (.bool false)] [(0, 1, (cv (.bool true))), (1, 1, (cv (.bool true))), (2, 1, (cv (.bool true)))]),
  ip 7 (pBuild [(.bool false), (.bool false), (.bool false), (.bool false), (.bool false)] [(0, 1, (cv (.bool true))), (1, 1, (cv (.bool true))), (2, 1, (cv (.bool true)))]),
  ip 8 (pBuild [(.bool false), (.bool false), (.bool false), (.bool false), (.bool false)] [(0, 1, (cv (.bool true))), (1, 1, (cv (.bool true))), (2, 1, (cv (.bool true))), (3, 1, (cv (.bool true)))]),
  ip 9 (pBuild [(.bool false), (.bool false), (.bool false), (.bool false), (.bool false)] []),
  ip 10 (pBuild [(.bool false), (.bool false), (.bool false), (.bool false), (.bool false)] [(2, 1, (cv (.bool true)))]),
  ip 11 (pBuild [(.bool false), (.bool false), (.bool false), (.bool false), (.bool false)] [(4, 1, (cv (.bool true)))]),
  ip 12 (pBuild [(.bool false), (.bool false), (.bool false), (.bool false), (.bool false)] [(2, 1, (cv (.bool true))), (4, 1, (cv (.bool true)))]),
  ip 13 (pBuild [(.bool false), (.bool false), (.bool false), (.bool false), (.bool false), (.bool false), (.bool false), (.bool false), (.bool false), (.bool false), (.bool false), (.bool false), (.bool false), (.bool false), (.bool false), (.bool false), (.bool false), (.bool false), (.bool false), (.bool false), (.bool false), (.bool false), (.bool false), (.bool false), (.bool false), (.bool false), (.bool false), (.bool false), (.bool false), (.bool false), (.bool false), (.bool false), (.bool false), (.bool false), (.bool false), (.bool false), (.bool false), (.bool false), (.bool false), (.bool false), (.bool false), (.bool false), (.bool false), (.bool false), (.bool false), (.bool false), (.bool false), (.bool false), (.bool false), (.bool false), (.bool false), (.bool false), (.bool false), (.bool false), (.bool false)] [(5, 5, (tg 3)), (10, 5, (tg 4)), (15, 5, (tg 5)), (20, 5, (tg 6)), (25, 5, (tg 7)), (30, 5, (tg 8)), (35, 5, (tg 9)), (40, 5, (tg 10)), (45, 5, (tg 11)), (50, 5, (tg 12))]),
  ip 14 (pMov (tg 0)),
  ip 15 (pIdx 11 true 5 (tg 13) (tg 14)),
  im0 3 (mStore 5 (tg 2) (tg 15))]
@[simp] def od8_2_ap := ops_rule (c := od8_2) rfl
def cd8_1 : SC := sSeq (sReg (seqI od8_2)) sRet
@[simp] def cd8_1_ap := seq_rule (c := cd8_1) rfl
def cd8_2 : SC := sSeq (sReg (seqI od8_1)) cd8_1
@[simp] def cd8_2_ap := seq_rule (c := cd8_2) rfl
def dd8 : DFn := ⟨cd8_2, 16, [.cell 2 5]⟩
theorem dd8_ok : fnOf Tryz.prog 106 = some dd8 := by kernel_rfl
def od9_1 : List IS := [im 1 3 (mBox (tg 0)),
  im 1 4 (mBox (tg 1)),
  ip 6 (pMov (cv (.bool false)))]
@[simp] def od9_1_ap := ops_rule (c := od9_1) rfl
def od9_2 : List IS := [ip 7 (pFaddr 3 (tg 3)),
  il 8 (tg 7) (mLoad1 (tg 7)),
  ip 9 (pBin .lss (tg 8) (cv (.int .i64 0))),
  ip 10 (pMov (tg 9)),
  gd 10 false (some 11) (ip 11 (pFaddr 3 (tg 3))),
  gd 10 false (some 12) (il 12 (tg 11) (mLoad1 (tg 11))),
  gd 10 false (some 13) (ip 13 (pBin .gtr (tg 12) (cv (.int .i64 1024)))),
  ip 14 (pPick (tg 10) (cv (.bool true)) (tg 13)),
  ip 15 (pMov (tg 14)),
  gd 15 false (some 16) (ip 16 (pFaddr 3 (tg 3))),
  gd 15 false (some 17) (il 17 (tg 16) (mLoad1 (tg 16))),
  gd 15 false (some 18) (ip 18 (pFaddr 3 (tg 3))),
  gd 15 false (some 19) (il 19 (tg 18) (mLoad1 (tg 18))),
  gd 15 false (some 20) (ip 20 (pBin .sub (tg 19) (cv (.int .i64 1)))),
  gd 15 false (some 21) (ip 21 (pBin .and (tg 17) (tg 20))),
  gd 15 false (some 22) (ip 22 (pBin .neq (tg 21) (cv (.int .i64 0)))),
  ip 23 (pPick (tg 15) (cv (.bool true)) (tg 22)),
  ip 24 (pMov (tg 23)),
  gd 24 false (some 25) (ip 25 (pFaddr 2 (tg 3))),
  gd 24 false (some 26) (il 26 (tg 25) (mLoad1 (tg 25))),
  gd 24 false (some 27) (ip 27 (pBin .lss (tg 26) (cv (.int .i64 0)))),
  ip 28 (pPick (tg 24) (cv (.bool true)) (tg 27)),
  ip 29 (pMov (tg 28)),
  gd 29 false (some 30) (ip 30 (pFaddr 2 (tg 3))),
  gd 29 false (some 31) (il 31 (tg 30) (mLoad1 (tg 30))),
  gd 29 false (some 32) (ip 32 (pFaddr 0 (tg 4))),
  gd 29 false (some 33) (il 33 (tg 32) (mLoad1 (tg 32))),
  gd 29 false (some 34) (ip 34 (pFaddr 3 (tg 3))),
  gd 29 false (some 35) (il 35 (tg 34) (mLoad1 (tg 34))),
  gd 29 false (some 36) (ip 36 (pMm True [(cv (.int .i64 1)), (tg 35)])),
  gd 29 false (some 37) (ip 37 (pBin .sub (tg 33) (tg 36))),
  gd 29 false (some 38) (ip 38 (pBin .gtr (tg 31) (tg 37))),
  ip 39 (pPick (tg 29) (cv (.bool true)) (tg 38))]
@[simp] def od9_2_ap := ops_rule (c := od9_2) rfl
def od9_3 : List IS := [ip 6 (pMov (cv (.bool false)))]
@[simp] def od9_3_ap := ops_rule (c := od9_3) rfl
def cd9_1 : SC := sSeq (sReg (seqI od9_3)) sRet
@[simp] def cd9_1_ap := seq_rule (c := cd9_1) rfl
def cd9_2 : SC := sCond (tg 39) cd9_1 sSkip
@[simp] def cd9_2_ap := cond_rule (c := cd9_2) rfl
def cd9_3 : SC := sSeq (sReg (seqI od9_2)) cd9_2
@[simp] def cd9_3_ap := seq_rule (c := cd9_3) rfl
def od9_4 : List IS := [ip 40 (pFaddr 3 (tg 3)),
  il 41 (tg 40) (mLoad1 (tg 40)),
  ip 42 (pBin .eql (tg 41) (cv (.int .i64 0))),
  ip 43 (pMov (tg 42)),
  gd 43 true (some 44) (ip 44 (pFaddr 4 (tg 3))),
  gd 43 true (some 45) (il 45 (tg 44) (mLoad1 (tg 44))),
  gd 43 true (some 46) (ip 46 (pLen (tg 45))),
  gd 43 true (some 47) (ip 47 (pBin .eql (tg 46) (cv (.int .i64 0)))),
  ip 48 (pPick (tg 43) (tg 47) (cv (.bool false))),
  ip 49 (pMov (tg 48)),
  gd 49 false (some 50) (ip 50 (pFaddr 3 (tg 3))),
  gd 49 false (some 51) (il 51 (tg 50) (mLoad1 (tg 50))),
  gd 49 false (some 52) (ip 52 (pBin .gtr (tg 51) (cv (.int .i64 0)))),
  gd 49 false (some 53) (ip 53 (pMov (tg 52))),
  gd 53 true (some 54) (ip 54 (pFaddr 4 (tg 3))),
  gd 53 true (some 55) (il 55 (tg 54) (mLoad1 (tg 54))),
  gd 53 true (some 56) (ip 56 (pMov (tg 2))),
  gd 53 true (some 57) (im 3 57 (mCall 108 [(tg 55), (tg 56)])),
  gd 49 false (some 58) (ip 58 (pPick (tg 53) (tg 57) (cv (.bool false)))),
  ip 59 (pPick (tg 49) (cv (.bool true)) (tg 58)),
  ip 6 (pMov (tg 59))]
@[simp] def od9_4_ap := ops_rule (c := od9_4) rfl
def cd9_4 : SC := sSeq (sReg (seqI od9_4)) sRet
@[simp] def cd9_4_ap := seq_rule (c := cd9_4) rfl
def cd9_5 : SC := sSeq cd9_3 cd9_4
@[simp] def cd9_5_ap := seq_rule (c := cd9_5) rfl
def cd9_6 : SC := sSeq (sReg (seqI od9_1)) cd9_5
@[simp] def cd9_6_ap := seq_rule (c := cd9_6) rfl
def dd9 : DFn := ⟨cd9_6, 60, [.t 6]⟩
theorem dd9_ok : fnOf Tryz.prog 107 = some dd9 := by kernel_rfl
def oe0_1 : List IS := [ip 4 (pMov (cv (.bool false)))]
@[simp] def oe0_1_ap := ops_rule (c := oe0_1) rfl
def oe0_2 : List IS := [ip 9 (pMov (tg 0)),
  ip 10 (pLen (tg 9)),
  ip 11 (pMov (cv (.int .i64 0)))]
@[simp] def oe0_2_ap := ops_rule (c := oe0_2) rfl
def oe0_3 : List IS := [ip 12 (pBin .lss (tg 11) (tg 10))]
@[simp] def oe0_3_ap := ops_rule (c := oe0_3) rfl
def ce0_1 : SC := sCond (tg 12) sSkip (sExit 0)
@[simp] def ce0_1_ap := cond_rule (c := ce0_1) rfl
def oe0_4 : List IS := [ip 13 (pMov (tg 11)),
  ip 14 (pIaddrS 4 (tg 9) (tg 11)),
  il 15 (tg 14) (mLoadN 4 (tg 14)),
  im 1 6 (mAlloc [(.int .i64 0), (.int .u64 0), (.int .i64 0), (.int .i64 0)]),
  ip 5 (pMov (tg 13)),
  im0 3 (mStore 4 (tg 6) (tg 15))]
@[simp] def oe0_4_ap := ops_rule (c := oe0_4) rfl
def oe0_5 : List DA := [⟨CI.pure (pFaddr 2 (tg 6)), (some 16), none, 0, []⟩,
  ⟨CI.load (tg 16) (mLoad1 (tg 16)), (some 17), none, 1, []⟩,
  ⟨CI.pure (pBin .geq (tg 17) (cv (.int .i64 0))), (some 18), none, 2, []⟩,
  ⟨CI.pure (pMov (tg 18)), (some 19), none, 3, []⟩,
  ⟨CI.pure (pFaddr 2 (tg 6)), (some 20), (some (19, true)), 4, []⟩,
  ⟨CI.load (tg 20) (mLoad1 (tg 20)), (some 21), (some (19, true)), 5, []⟩,
  ⟨CI.pure (pMov (tg 5)), (some 22), (some (19, true)), 6, []⟩,
  ⟨CI.pure (pBin .lss (tg 21) (tg 22)), (some 23), (some (19, true)), 7, []⟩,
  ⟨CI.pure (pPick (tg 19) (tg 23) (cv (.bool false))), (some 24), none, 8, []⟩,
  ⟨CI.pure (pFaddr 3 (tg 6)), (some 25), none, 9, []⟩,
  ⟨CI.load (tg 25) (mLoad1 (tg 25)), (some 26), none, 10, []⟩,
  ⟨CI.pure (pBin .geq (tg 26) (cv (.int .i64 0))), (some 27), none, 11, []⟩,
  ⟨CI.pure (pMov (tg 27)), (some 28), none, 12, []⟩,
  ⟨CI.pure (pFaddr 3 (tg 6)), (some 29), (some (28, true)), 13, []⟩,
  ⟨CI.load (tg 29) (mLoad1 (tg 29)), (some 30), (some (28, true)), 14, []⟩,
  ⟨CI.pure (pMov (tg 5)), (some 31), (some (28, true)), 15, []⟩,
  ⟨CI.pure (pBin .lss (tg 30) (tg 31)), (some 32), (some (28, true)), 16, []⟩,
  ⟨CI.pure (pPick (tg 28) (tg 32) (cv (.bool false))), (some 33), none, 17, []⟩,
  ⟨CI.pure (pMov (tg 24)), (some 7), none, 18, []⟩,
  ⟨CI.pure (pMov (tg 33)), (some 8), none, 19, []⟩]
@[simp] def oe0_5_ap := das_rule (c := oe0_5) rfl
def oe0_6 : List IS := [ip 51 (pFaddr 0 (tg 6)),
  il 52 (tg 51) (mLoad1 (tg 51)),
  ip 53 (pBin .eql (tg 52) (cv (.int .i64 1))),
  ip 50 (pMov (tg 53))]
@[simp] def oe0_6_ap := ops_rule (c := oe0_6) rfl
def oe0_7 : List DA := [⟨CI.pure (pFaddr 2 (tg 6)), (some 54), none, 0, []⟩,
  ⟨CI.load (tg 54) (mLoad1 (tg 54)), (some 55), none, 1, []⟩,
  ⟨CI.pure (pBin .eql (tg 55) (cv (.int .i64 0))), (some 56), none, 2, []⟩,
  ⟨CI.pure (pFaddr 3 (tg 6)), (some 57), none, 3, []⟩,
  ⟨CI.load (tg 57) (mLoad1 (tg 57)), (some 58), none, 4, []⟩,
  ⟨CI.pure (pBin .eql (tg 58) (cv (.int .i64 0))), (some 59), none, 5, []⟩,
  ⟨CI.pure (pMov (tg 56)), (some 7), none, 6, []⟩,
  ⟨CI.pure (pMov (tg 59)), (some 8), none, 7, []⟩]
@[simp] def oe0_7_ap := das_rule (c := oe0_7) rfl
def oe0_8 : List IS := [ip 61 (pFaddr 0 (tg 6)),
  il 62 (tg 61) (mLoad1 (tg 61)),
  ip 63 (pBin .eql (tg 62) (cv (.int .i64 2))),
  ip 60 (pMov (tg 63))]
@[simp] def oe0_8_ap := ops_rule (c := oe0_8) rfl
def oe0_9 : List DA := [⟨CI.pure (pFaddr 2 (tg 6)), (some 64), none, 0, []⟩,
  ⟨CI.load (tg 64) (mLoad1 (tg 64)), (some 65), none, 1, []⟩,
  ⟨CI.pure (pBin .eql (tg 65) (cv (.int .i64 0))), (some 66), none, 2, []⟩,
  ⟨CI.pure (pMov (tg 66)), (some 67), none, 3, []⟩,
  ⟨CI.pure (pFaddr 1 (tg 6)), (some 68), (some (67, true)), 4, []⟩,
  ⟨CI.load (tg 68) (mLoad1 (tg 68)), (some 69), (some (67, true)), 5, []⟩,
  ⟨CI.pure (pMov (tg 1)), (some 70), (some (67, true)), 6, []⟩,
  ⟨CI.pure (pConvI .u64 (tg 70)), (some 71), (some (67, true)), 7, []⟩,
  ⟨CI.pure (pBin .lss (tg 69) (tg 71)), (some 72), (some (67, true)), 8, []⟩,
  ⟨CI.pure (pPick (tg 67) (tg 72) (cv (.bool false))), (some 73), none, 9, []⟩,
  ⟨CI.pure (pFaddr 3 (tg 6)), (some 74), none, 10, []⟩,
  ⟨CI.load (tg 74) (mLoad1 (tg 74)), (some 75), none, 11, []⟩,
  ⟨CI.pure (pBin .eql (tg 75) (cv (.int .i64 0))), (some 76), none, 12, []⟩,
  ⟨CI.pure (pMov (tg 73)), (some 7), none, 13, []⟩,
  ⟨CI.pure (pMov (tg 76)), (some 8), none, 14, []⟩]
@[simp] def oe0_9_ap := das_rule (c := oe0_9) rfl
def oe0_10 : List IS := [ip 78 (pFaddr 0 (tg 6)),
  il 79 (tg 78) (mLoad1 (tg 78)),
  ip 80 (pBin .geq (tg 79) (cv (.int .i64 3))),
  ip 81 (pMov (tg 80)),
  gd 81 true (some 82) (ip 82 (pFaddr 0 (tg 6))),
  gd 81 true (some 83) (il 83 (tg 82) (mLoad1 (tg 82))),
  gd 81 true (some 84) (ip 84 (pBin .leq (tg 83) (cv (.int .i64 5)))),
  ip 85 (pPick (tg 81) (tg 84) (cv (.bool false))),
  ip 77 (pMov (tg 85))]
@[simp] def oe0_10_ap := ops_rule (c := oe0_10) rfl
def oe0_11 : List IS := [ip 86 (pFaddr 3 (tg 6)),
  il 87 (tg 86) (mLoad1 (tg 86)),
  ip 88 (pBin .eql (tg 87) (cv (.int .i64 0))),
  ip 89 (pMov (tg 88)),
  gd 89 true (some 90) (ip 90 (pFaddr 1 (tg 6))),
  gd 89 true (some 91) (il 91 (tg 90) (mLoad1 (tg 90))),
  gd 89 true (some 92) (ip 92 (pBin .eql (tg 91) (cv (.int .u64 0)))),
  ip 93 (pPick (tg 89) (tg 92) (cv (.bool false))),
  ip 8 (pMov (tg 93))]
@[simp] def oe0_11_ap := ops_rule (c := oe0_11) rfl
def oe0_12 : List IS := [ip 34 (pMov (tg 8)),
  ip 35 (pMov (tg 34)),
  gd 35 true (some 36) (ip 36 (pFaddr 0 (tg 6))),
  gd 35 true (some 37) (il 37 (tg 36) (mLoad1 (tg 36))),
  gd 35 true (some 38) (ip 38 (pBin .geq (tg 37) (cv (.int .i64 6)))),
  ip 39 (pPick (tg 35) (tg 38) (cv (.bool false))),
  ip 40 (pMov (tg 39)),
  gd 40 true (some 41) (ip 41 (pFaddr 0 (tg 6))),
  gd 40 true (some 42) (il 42 (tg 41) (mLoad1 (tg 41))),
  gd 40 true (some 43) (ip 43 (pBin .leq (tg 42) (cv (.int .i64 19)))),
  ip 44 (pPick (tg 40) (tg 43) (cv (.bool false))),
  ip 45 (pMov (tg 44)),
  gd 45 true (some 46) (ip 46 (pFaddr 1 (tg 6))),
  gd 45 true (some 47) (il 47 (tg 46) (mLoad1 (tg 46))),
  gd 45 true (some 48) (ip 48 (pBin .eql (tg 47) (cv (.int .u64 0)))),
  ip 49 (pPick (tg 45) (tg 48) (cv (.bool false))),
  ip 8 (pMov (tg 49))]
@[simp] def oe0_12_ap := ops_rule (c := oe0_12) rfl
def ce0_2 : SC := sCond (tg 77) (sReg (seqI oe0_11)) (sReg (seqI oe0_12))
@[simp] def ce0_2_ap := cond_rule (c := ce0_2) rfl
def ce0_3 : SC := sSeq (sReg (seqI oe0_10)) ce0_2
@[simp] def ce0_3_ap := seq_rule (c := ce0_3) rfl
def ce0_4 : SC := sCond (tg 60) (sAny oe0_9) ce0_3
@[simp] def ce0_4_ap := cond_rule (c := ce0_4) rfl
def ce0_5 : SC := sSeq (sReg (seqI oe0_8)) ce0_4
@[simp] def ce0_5_ap := seq_rule (c := ce0_5) rfl
def ce0_6 : SC := sCond (tg 50) (sAny oe0_7) ce0_5
@[simp] def ce0_6_ap := cond_rule (c := ce0_6) rfl
def ce0_7 : SC := sSeq (sReg (seqI oe0_6)) ce0_6
@[simp] def ce0_7_ap := seq_rule (c := ce0_7) rfl
def ce0_8 : SC := sBlock 2 ce0_7
@[simp] def ce0_8_ap := block_rule (c := ce0_8) rfl
def oe0_13 : List IS := [ip 94 (pMov (tg 7)),
  ip 95 (pUn .not (tg 94)),
  ip 96 (pMov (tg 95)),
  gd 96 false (some 97) (ip 97 (pMov (tg 8))),
  gd 96 false (some 98) (ip 98 (pUn .not (tg 97))),
  ip 99 (pPick (tg 96) (cv (.bool true)) (tg 98))]
@[simp] def oe0_13_ap := ops_rule (c := oe0_13) rfl
def oe0_14 : List IS := [ip 4 (pMov (cv (.bool false)))]
@[simp] def oe0_14_ap := ops_rule (c := oe0_14) rfl
def ce0_9 : SC := sSeq (sReg (seqI oe0_14)) sRet
@[simp] def ce0_9_ap := seq_rule (c := ce0_9) rfl
def ce0_10 : SC := sCond (tg 99) ce0_9 sSkip
@[simp] def ce0_10_ap := cond_rule (c := ce0_10) rfl
def ce0_11 : SC := sSeq (sReg (seqI oe0_13)) ce0_10
@[simp] def ce0_11_ap := seq_rule (c := ce0_11) rfl
def ce0_12 : SC := sSeq ce0_8 ce0_11
@[simp] def ce0_12_ap := seq_rule (c := ce0_12) rfl
def ce0_13 : SC := sSeq (sAny oe0_5) ce0_12
@[simp] def ce0_13_ap := seq_rule (c := ce0_13) rfl
def ce0_14 : SC := sSeq (sReg (seqI oe0_4)) ce0_13
@[simp] def ce0_14_ap := seq_rule (c := ce0_14) rfl
def ce0_15 : SC := sBlock 1 ce0_14
@[simp] def ce0_15_ap := block_rule (c := ce0_15) rfl
def oe0_15 : List IS := [ip 100 (pBin .add (tg 11) (cv (.int .i64 1))),
  ip 11 (pMov (tg 100))]
@[simp] def oe0_15_ap := ops_rule (c := oe0_15) rfl
def ce0_16 : SC := sSeq ce0_15 (sReg (seqI oe0_15))
@[simp] def ce0_16_ap := seq_rule (c := ce0_16) rfl
def ce0_17 : SC := sSeq ce0_1 ce0_16
@[simp] def ce0_17_ap := seq_rule (c := ce0_17) rfl
def ce0_18 : SC := sSeq (sReg (seqI oe0_3)) ce0_17
@[simp] def ce0_18_ap := seq_rule (c := ce0_18) rfl
def ce0_19 : SC := sLoop ce0_18
def ce0_20 : SC := sBlock 0 ce0_19
@[simp] def ce0_20_ap := block_rule (c := ce0_20) rfl
def ce0_21 : SC := sSeq (sReg (seqI oe0_2)) ce0_20
@[simp] def ce0_21_ap := seq_rule (c := ce0_21) rfl
def oe0_16 : List IS := [ip 101 (pMov (tg 0)),
  ip 102 (pLen (tg 101)),
  ip 103 (pBin .gtr (tg 102) (cv (.int .i64 0))),
  ip 104 (pMov (tg 103)),
  gd 104 true (some 105) (ip 105 (pMov (tg 0))),
  gd 104 true (some 106) (ip 106 (pLen (tg 105))),
  gd 104 true (some 107) (ip 107 (pBin .leq (tg 106) (cv (.int .i64 65536)))),
  ip 108 (pPick (tg 104) (tg 107) (cv (.bool false))),
  ip 109 (pMov (tg 108)),
  gd 109 true (some 110) (ip 110 (pMov (tg 0))),
  gd 109 true (some 111) (im 3 111 (mCall 163 [(tg 110)])),
  ip 112 (pPick (tg 109) (tg 111) (cv (.bool false))),
  ip 4 (pMov (tg 112))]
@[simp] def oe0_16_ap := ops_rule (c := oe0_16) rfl
def ce0_22 : SC := sSeq (sReg (seqI oe0_16)) sRet
@[simp] def ce0_22_ap := seq_rule (c := ce0_22) rfl
def ce0_23 : SC := sSeq ce0_21 ce0_22
@[simp] def ce0_23_ap := seq_rule (c := ce0_23) rfl
def ce0_24 : SC := sSeq (sReg (seqI oe0_1)) ce0_23
@[simp] def ce0_24_ap := seq_rule (c := ce0_24) rfl
def de0 : DFn := ⟨ce0_24, 113, [.t 4]⟩
theorem de0_ok : fnOf Tryz.prog 108 = some de0 := by kernel_rfl
def oe7_1 : List IS := [ip 4 (pMov (cv (.int .i64 0)))]
@[simp] def oe7_1_ap := ops_rule (c := oe7_1) rfl
def oe7_2 : List IS := [ip 6 (pMov (tg 0)),
  ip 7 (pLen (tg 6)),
  ip 8 (pMov (cv (.int .i64 0)))]
@[simp] def oe7_2_ap := ops_rule (c := oe7_2) rfl
def oe7_3 : List IS := [ip 9 (pBin .lss (tg 8) (tg 7))]
@[simp] def oe7_3_ap := ops_rule (c := oe7_3) rfl
def ce7_1 : SC := sCond (tg 9) sSkip (sExit 0)
@[simp] def ce7_1_ap := cond_rule (c := ce7_1) rfl
def oe7_4 : List IS := [ip 10 (pMov (tg 8)),
  ip 5 (pMov (tg 10))]
@[simp] def oe7_4_ap := ops_rule (c := oe7_4) rfl
def oe7_5 : List IS := [ip 11 (pMov (tg 1)),
  ip 12 (pMov (tg 0)),
  ip 13 (pMov (tg 5)),
  ip 14 (pIaddrS 4 (tg 12) (tg 13)),
  il 15 (tg 14) (mLoadN 4 (tg 14)),
  im 3 16 (mCallv (tg 11) [(tg 15)])]
@[simp] def oe7_5_ap := ops_rule (c := oe7_5) rfl
def oe7_6 : List IS := [ip 17 (pMov (tg 5)),
  ip 4 (pMov (tg 17))]
@[simp] def oe7_6_ap := ops_rule (c := oe7_6) rfl
def ce7_2 : SC := sSeq (sReg (seqI oe7_6)) sRet
@[simp] def ce7_2_ap := seq_rule (c := ce7_2) rfl
def ce7_3 : SC := sCond (tg 16) ce7_2 sSkip
@[simp] def ce7_3_ap := cond_rule (c := ce7_3) rfl
def ce7_4 : SC := sSeq (sReg (seqI oe7_5)) ce7_3
@[simp] def ce7_4_ap := seq_rule (c := ce7_4) rfl
def ce7_5 : SC := sSeq (sReg (seqI oe7_4)) ce7_4
@[simp] def ce7_5_ap := seq_rule (c := ce7_5) rfl
def ce7_6 : SC := sBlock 1 ce7_5
@[simp] def ce7_6_ap := block_rule (c := ce7_6) rfl
def oe7_7 : List IS := [ip 18 (pBin .add (tg 8) (cv (.int .i64 1))),
  ip 8 (pMov (tg 18))]
@[simp] def oe7_7_ap := ops_rule (c := oe7_7) rfl
def ce7_7 : SC := sSeq ce7_6 (sReg (seqI oe7_7))
@[simp] def ce7_7_ap := seq_rule (c := ce7_7) rfl
def ce7_8 : SC := sSeq ce7_1 ce7_7
@[simp] def ce7_8_ap := seq_rule (c := ce7_8) rfl
def ce7_9 : SC := sSeq (sReg (seqI oe7_3)) ce7_8
@[simp] def ce7_9_ap := seq_rule (c := ce7_9) rfl
def ce7_10 : SC := sLoop ce7_9
def ce7_11 : SC := sBlock 0 ce7_10
@[simp] def ce7_11_ap := block_rule (c := ce7_11) rfl
def ce7_12 : SC := sSeq (sReg (seqI oe7_2)) ce7_11
@[simp] def ce7_12_ap := seq_rule (c := ce7_12) rfl
def oe7_8 : List IS := [ip 4 (pMov (cv (.int .i64 (-1))))]
@[simp] def oe7_8_ap := ops_rule (c := oe7_8) rfl
def ce7_13 : SC := sSeq (sReg (seqI oe7_8)) sRet
@[simp] def ce7_13_ap := seq_rule (c := ce7_13) rfl
def ce7_14 : SC := sSeq ce7_12 ce7_13
@[simp] def ce7_14_ap := seq_rule (c := ce7_14) rfl
def ce7_15 : SC := sSeq (sReg (seqI oe7_1)) ce7_14
@[simp] def ce7_15_ap := seq_rule (c := ce7_15) rfl
def de7 : DFn := ⟨ce7_15, 19, [.t 4]⟩
theorem de7_ok : fnOf Tryz.prog 150 = some de7 := by kernel_rfl
def oe8_1 : List IS := [ip 4 (pMov (cv (.int .u64 0)))]
@[simp] def oe8_1_ap := ops_rule (c := oe8_1) rfl
def oe8_2 : List IS := [ip 8 (pMov (tg 0)),
  ip 9 (pLen (tg 8)),
  im 1 10 (mMkslice 1 8 [(.int .u64 0)] (tg 9) (tg 9)),
  ip 5 (pMov (tg 10))]
@[simp] def oe8_2_ap := ops_rule (c := oe8_2) rfl
def oe8_3 : List IS := [ip 11 (pMov (tg 0)),
  ip 12 (pLen (tg 11)),
  ip 13 (pMov (cv (.int .i64 0)))]
@[simp] def oe8_3_ap := ops_rule (c := oe8_3) rfl
def oe8_4 : List IS := [ip 14 (pBin .lss (tg 13) (tg 12))]
@[simp] def oe8_4_ap := ops_rule (c := oe8_4) rfl
def ce8_1 : SC := sCond (tg 14) sSkip (sExit 0)
@[simp] def ce8_1_ap := cond_rule (c := ce8_1) rfl
def oe8_5 : List IS := [ip 15 (pMov (tg 13)),
  ip 16 (pIaddrS 4 (tg 11) (tg 13)),
  il 17 (tg 16) (mLoadN 4 (tg 16)),
  im 1 7 (mAlloc [(.int .i64 0), (.int .u64 0), (.int .i64 0), (.int .i64 0)]),
  ip 6 (pMov (tg 15)),
  im0 3 (mStore 4 (tg 7) (tg 17))]
@[simp] def oe8_5_ap := ops_rule (c := oe8_5) rfl
def oe8_6 : List IS := [ip 35 (pFaddr 0 (tg 7)),
  il 36 (tg 35) (mLoad1 (tg 35)),
  ip 37 (pBin .eql (tg 36) (cv (.int .i64 1))),
  ip 34 (pMov (tg 37))]
@[simp] def oe8_6_ap := ops_rule (c := oe8_6) rfl
def oe8_7 : List IS := [ip 38 (pMov (tg 5)),
  ip 39 (pMov (tg 6)),
  ip 40 (pFaddr 1 (tg 7)),
  il 41 (tg 40) (mLoad1 (tg 40)),
  ip 42 (pIaddrS 1 (tg 38) (tg 39)),
  im0 3 (mStore 1 (tg 42) (tg 41))]
@[simp] def oe8_7_ap := ops_rule (c := oe8_7) rfl
def oe8_8 : List IS := [ip 44 (pFaddr 0 (tg 7)),
  il 45 (tg 44) (mLoad1 (tg 44)),
  ip 46 (pBin .eql (tg 45) (cv (.int .i64 2))),
  ip 43 (pMov (tg 46))]
@[simp] def oe8_8_ap := ops_rule (c := oe8_8) rfl
def oe8_9 : List IS := [ip 47 (pMov (tg 5)),
  ip 48 (pMov (tg 6)),
  ip 49 (pMov (tg 1)),
  ip 50 (pFaddr 1 (tg 7)),
  il 51 (tg 50) (mLoad1 (tg 50)),
  ip 52 (pIaddrS 1 (tg 49) (tg 51)),
  il 53 (tg 52) (mLoad1 (tg 52)),
  ip 54 (pIaddrS 1 (tg 47) (tg 48)),
  im0 3 (mStore 1 (tg 54) (tg 53))]
@[simp] def oe8_9_ap := ops_rule (c := oe8_9) rfl
def oe8_10 : List IS := [ip 56 (pFaddr 0 (tg 7)),
  il 57 (tg 56) (mLoad1 (tg 56)),
  ip 58 (pBin .leq (tg 57) (cv (.int .i64 5))),
  ip 55 (pMov (tg 58))]
@[simp] def oe8_10_ap := ops_rule (c := oe8_10) rfl
def oe8_11 : List DA := [⟨CI.pure (pMov (tg 5)), (some 59), none, 0, []⟩,
  ⟨CI.pure (pMov (tg 6)), (some 60), none, 1, []⟩,
  ⟨CI.pure (pFaddr 0 (tg 7)), (some 61), none, 2, []⟩,
  ⟨CI.load (tg 61) (mLoad1 (tg 61)), (some 62), none, 3, []⟩,
  ⟨CI.pure (pMov (tg 5)), (some 63), none, 4, []⟩,
  ⟨CI.pure (pFaddr 2 (tg 7)), (some 64), none, 5, []⟩,
  ⟨CI.load (tg 64) (mLoad1 (tg 64)), (some 65), none, 6, []⟩,
  ⟨CI.pure (pIaddrS 1 (tg 63) (tg 65)), (some 66), none, 7, []⟩,
  ⟨CI.load (tg 66) (mLoad1 (tg 66)), (some 67), none, 8, []⟩,
  ⟨CI.mem 3 (mCall 220 [(tg 62), (tg 67)]), (some 68), none, 9, []⟩,
  ⟨CI.pure (pIaddrS 1 (tg 59) (tg 60)), (some 69), none, 10, []⟩,
  ⟨CI.mem 3 (mStore 1 (tg 69) (tg 68)), none, none, 11, []⟩]
@[simp] def oe8_11_ap := das_rule (c := oe8_11) rfl
def oe8_12 : List DA := [⟨CI.pure (pMov (tg 5)), (some 18), none, 0, []⟩,
  ⟨CI.pure (pMov (tg 6)), (some 19), none, 1, []⟩,
  ⟨CI.pure (pFaddr 0 (tg 7)), (some 20), none, 2, []⟩,
  ⟨CI.load (tg 20) (mLoad1 (tg 20)), (some 21), none, 3, []⟩,
  ⟨CI.pure (pMov (tg 5)), (some 22), none, 4, []⟩,
  ⟨CI.pure (pFaddr 2 (tg 7)), (some 23), none, 5, []⟩,
  ⟨CI.load (tg 23) (mLoad1 (tg 23)), (some 24), none, 6, []⟩,
  ⟨CI.pure (pIaddrS 1 (tg 22) (tg 24)), (some 25), none, 7, []⟩,
  ⟨CI.load (tg 25) (mLoad1 (tg 25)), (some 26), none, 8, []⟩,
  ⟨CI.pure (pMov (tg 5)), (some 27), none, 9, []⟩,
  ⟨CI.pure (pFaddr 3 (tg 7)), (some 28), none, 10, []⟩,
  ⟨CI.load (tg 28) (mLoad1 (tg 28)), (some 29), none, 11, []⟩,
  ⟨CI.pure (pIaddrS 1 (tg 27) (tg 29)), (some 30), none, 12, []⟩,
  ⟨CI.load (tg 30) (mLoad1 (tg 30)), (some 31), none, 13, []⟩,
  ⟨CI.mem 3 (mCall 221 [(tg 21), (tg 26), (tg 31)]), (some 32), none, 14, []⟩,
  ⟨CI.pure (pIaddrS 1 (tg 18) (tg 19)), (some 33), none, 15, []⟩,
  ⟨CI.mem 3 (mStore 1 (tg 33) (tg 32)), none, none, 16, []⟩]
@[simp] def oe8_12_ap := das_rule (c := oe8_12) rfl
def ce8_2 : SC := sCond (tg 55) (sAny oe8_11) (sAny oe8_12)
@[simp] def ce8_2_ap := cond_rule (c := ce8_2) rfl
def ce8_3 : SC := sSeq (sReg (seqI oe8_10)) ce8_2
@[simp] def ce8_3_ap := seq_rule (c := ce8_3) rfl
def ce8_4 : SC := sCond (tg 43) (sReg (seqI oe8_9)) ce8_3
@[simp] def ce8_4_ap := cond_rule (c := ce8_4) rfl
def ce8_5 : SC := sSeq (sReg (seqI oe8_8)) ce8_4
@[simp] def ce8_5_ap := seq_rule (c := ce8_5) rfl
def ce8_6 : SC := sCond (tg 34) (sReg (seqI oe8_7)) ce8_5
@[simp] def ce8_6_ap := cond_rule (c := ce8_6) rfl
def ce8_7 : SC := sSeq (sReg (seqI oe8_6)) ce8_6
@[simp] def ce8_7_ap := seq_rule (c := ce8_7) rfl
def ce8_8 : SC := sBlock 2 ce8_7
@[simp] def ce8_8_ap := block_rule (c := ce8_8) rfl
def ce8_9 : SC := sSeq (sReg (seqI oe8_5)) ce8_8
@[simp] def ce8_9_ap := seq_rule (c := ce8_9) rfl
def ce8_10 : SC := sBlock 1 ce8_9
@[simp] def ce8_10_ap := block_rule (c := ce8_10) rfl
def oe8_13 : List IS := [ip 70 (pBin .add (tg 13) (cv (.int .i64 1))),
  ip 13 (pMov (tg 70))]
@[simp] def oe8_13_ap := ops_rule (c := oe8_13) rfl
def ce8_11 : SC := sSeq ce8_10 (sReg (seqI oe8_13))
@[simp] def ce8_11_ap := seq_rule (c := ce8_11) rfl
def ce8_12 : SC := sSeq ce8_1 ce8_11
@[simp] def ce8_12_ap := seq_rule (c := ce8_12) rfl
def ce8_13 : SC := sSeq (sReg (seqI oe8_4)) ce8_12
@[simp] def ce8_13_ap := seq_rule (c := ce8_13) rfl
def ce8_14 : SC := sLoop ce8_13
def ce8_15 : SC := sBlock 0 ce8_14
@[simp] def ce8_15_ap := block_rule (c := ce8_15) rfl
def ce8_16 : SC := sSeq (sReg (seqI oe8_3)) ce8_15
@[simp] def ce8_16_ap := seq_rule (c := ce8_16) rfl
def oe8_14 : List IS := [ip 71 (pMov (tg 5)),
  ip 72 (pMov (tg 5)),
  ip 73 (pLen (tg 72)),
  ip 74 (pBin .sub (tg 73) (cv (.int .i64 1))),
  ip 75 (pIaddrS 1 (tg 71) (tg 74)),
  il 76 (tg 75) (mLoad1 (tg 75)),
  ip 4 (pMov (tg 76))]
@[simp] def oe8_14_ap := ops_rule (c := oe8_14) rfl
def ce8_17 : SC := sSeq (sReg (seqI oe8_14)) sRet
@[simp] def ce8_17_ap := seq_rule (c := ce8_17) rfl
def ce8_18 : SC := sSeq ce8_16 ce8_17
@[simp] def ce8_18_ap := seq_rule (c := ce8_18) rfl
def ce8_19 : SC := sSeq (sReg (seqI oe8_2)) ce8_18
@[simp] def ce8_19_ap := seq_rule (c := ce8_19) rfl
def ce8_20 : SC := sSeq (sReg (seqI oe8_1)) ce8_19
@[simp] def ce8_20_ap := seq_rule (c := ce8_20) rfl
def de8 : DFn := ⟨ce8_20, 77, [.t 4]⟩
theorem de8_ok : fnOf Tryz.prog 151 = some de8 := by kernel_rfl
def oe9_1 : List IS := [ip 2 (pMov (cv (.bool false)))]
@[simp] def oe9_1_ap := ops_rule (c := oe9_1) rfl
def oe9_2 : List IS := [ip 8 (pMov (tg 0)),
  ip 9 (pLen (tg 8)),
  im 1 10 (mMkslice 1 8 [(.int .i64 0)] (tg 9) (tg 9)),
  ip 3 (pMov (tg 10))]
@[simp] def oe9_2_ap := ops_rule (c := oe9_2) rfl
def oe9_3 : List IS := [ip 11 (pMov (tg 0)),
  ip 12 (pLen (tg 11)),
  ip 13 (pMov (cv (.int .i64 0)))]
@[simp] def oe9_3_ap := ops_rule (c := oe9_3) rfl
def oe9_4 : List IS := [ip 14 (pBin .lss (tg 13) (tg 12))]
@[simp] def oe9_4_ap := ops_rule (c := oe9_4) rfl
def ce9_1 : SC := sCond (tg 14) sSkip (sExit 0)
@[simp] def ce9_1_ap := cond_rule (c := ce9_1) rfl
def oe9_5 : List IS := [ip 15 (pIaddrS 4 (tg 11) (tg 13)),
  il 16 (tg 15) (mLoadN 4 (tg 15)),
  im 1 5 (mAlloc [(.int .i64 0), (.int .u64 0), (.int .i64 0), (.int .i64 0)]),
  im0 3 (mStore 4 (tg 5) (tg 16))]
@[simp] def oe9_5_ap := ops_rule (c := oe9_5) rfl
def oe9_6 : List IS := [ip 17 (pFaddr 0 (tg 5)),
  il 18 (tg 17) (mLoad1 (tg 17)),
  ip 19 (pBin .geq (tg 18) (cv (.int .i64 3)))]
@[simp] def oe9_6_ap := ops_rule (c := oe9_6) rfl
def oe9_7 : List IS := [ip 20 (pMov (tg 3)),
  ip 21 (pFaddr 2 (tg 5)),
  il 22 (tg 21) (mLoad1 (tg 21)),
  ip 23 (pIaddrS 1 (tg 20) (tg 22)),
  il 24 (tg 23) (mLoad1 (tg 23)),
  ip 25 (pBin .add (tg 24) (cv (.int .i64 1))),
  ip 26 (pIaddrS 1 (tg 20) (tg 22)),
  im0 3 (mStore 1 (tg 26) (tg 25))]
@[simp] def oe9_7_ap := ops_rule (c := oe9_7) rfl
def ce9_2 : SC := sCond (tg 19) (sReg (seqI oe9_7)) sSkip
@[simp] def ce9_2_ap := cond_rule (c := ce9_2) rfl
def ce9_3 : SC := sSeq (sReg (seqI oe9_6)) ce9_2
@[simp] def ce9_3_ap := seq_rule (c := ce9_3) rfl
def oe9_8 : List IS := [ip 27 (pFaddr 0 (tg 5)),
  il 28 (tg 27) (mLoad1 (tg 27)),
  ip 29 (pBin .geq (tg 28) (cv (.int .i64 6)))]
@[simp] def oe9_8_ap := ops_rule (c := oe9_8) rfl
def oe9_9 : List IS := [ip 30 (pMov (tg 3)),
  ip 31 (pFaddr 3 (tg 5)),
  il 32 (tg 31) (mLoad1 (tg 31)),
  ip 33 (pIaddrS 1 (tg 30) (tg 32)),
  il 34 (tg 33) (mLoad1 (tg 33)),
  ip 35 (pBin .add (tg 34) (cv (.int .i64 1))),
  ip 36 (pIaddrS 1 (tg 30) (tg 32)),
  im0 3 (mStore 1 (tg 36) (tg 35))]
@[simp] def oe9_9_ap := ops_rule (c := oe9_9) rfl
def ce9_4 : SC := sCond (tg 29) (sReg (seqI oe9_9)) sSkip
@[simp] def ce9_4_ap := cond_rule (c := ce9_4) rfl
def ce9_5 : SC := sSeq (sReg (seqI oe9_8)) ce9_4
@[simp] def ce9_5_ap := seq_rule (c := ce9_5) rfl
def ce9_6 : SC := sSeq ce9_3 ce9_5
@[simp] def ce9_6_ap := seq_rule (c := ce9_6) rfl
def ce9_7 : SC := sSeq (sReg (seqI oe9_5)) ce9_6
@[simp] def ce9_7_ap := seq_rule (c := ce9_7) rfl
def ce9_8 : SC := sBlock 1 ce9_7
@[simp] def ce9_8_ap := block_rule (c := ce9_8) rfl
def oe9_10 : List IS := [ip 37 (pBin .add (tg 13) (cv (.int .i64 1))),
  ip 13 (pMov (tg 37))]
@[simp] def oe9_10_ap := ops_rule (c := oe9_10) rfl
def ce9_9 : SC := sSeq ce9_8 (sReg (seqI oe9_10))
@[simp] def ce9_9_ap := seq_rule (c := ce9_9) rfl
def ce9_10 : SC := sSeq ce9_1 ce9_9
@[simp] def ce9_10_ap := seq_rule (c := ce9_10) rfl
def ce9_11 : SC := sSeq (sReg (seqI oe9_4)) ce9_10
@[simp] def ce9_11_ap := seq_rule (c := ce9_11) rfl
def ce9_12 : SC := sLoop ce9_11
def ce9_13 : SC := sBlock 0 ce9_12
@[simp] def ce9_13_ap := block_rule (c := ce9_13) rfl
def ce9_14 : SC := sSeq (sReg (seqI oe9_3)) ce9_13
@[simp] def ce9_14_ap := seq_rule (c := ce9_14) rfl
def oe9_11 : List IS := [ip 38 (pMov (tg 3)),
  ip 39 (pLen (tg 38)),
  ip 40 (pMov (cv (.int .i64 0)))]
@[simp] def oe9_11_ap := ops_rule (c := oe9_11) rfl
def oe9_12 : List IS := [ip 41 (pBin .lss (tg 40) (tg 39))]
@[simp] def oe9_12_ap := ops_rule (c := oe9_12) rfl
def ce9_15 : SC := sCond (tg 41) sSkip (sExit 2)
@[simp] def ce9_15_ap := cond_rule (c := ce9_15) rfl
def oe9_13 : List IS := [ip 42 (pMov (tg 40)),
  ip 43 (pIaddrS 1 (tg 38) (tg 40)),
  il 44 (tg 43) (mLoad1 (tg 43)),
  ip 6 (pMov (tg 42)),
  ip 7 (pMov (tg 44))]
@[simp] def oe9_13_ap := ops_rule (c := oe9_13) rfl
def oe9_14 : List IS := [ip 45 (pMov (tg 7)),
  ip 46 (pBin .eql (tg 45) (cv (.int .i64 1))),
  ip 47 (pMov (tg 6)),
  ip 48 (pMov (tg 0)),
  ip 49 (pLen (tg 48)),
  ip 50 (pBin .sub (tg 49) (cv (.int .i64 1))),
  ip 51 (pBin .lss (tg 47) (tg 50)),
  ip 52 (pEqB true (tg 46) (tg 51)),
  ip 53 (pMov (tg 52)),
  gd 53 false (some 54) (ip 54 (pMov (tg 7))),
  gd 53 false (some 55) (ip 55 (pBin .gtr (tg 54) (cv (.int .i64 1)))),
  ip 56 (pPick (tg 53) (cv (.bool true)) (tg 55))]
@[simp] def oe9_14_ap := ops_rule (c := oe9_14) rfl
def oe9_15 : List IS := [ip 2 (pMov (cv (.bool false)))]
@[simp] def oe9_15_ap := ops_rule (c := oe9_15) rfl
def ce9_16 : SC := sSeq (sReg (seqI oe9_15)) sRet
@[simp] def ce9_16_ap := seq_rule (c := ce9_16) rfl
def ce9_17 : SC := sCond (tg 56) ce9_16 sSkip
@[simp] def ce9_17_ap := cond_rule (c := ce9_17) rfl
def ce9_18 : SC := sSeq (sReg (seqI oe9_14)) ce9_17
@[simp] def ce9_18_ap := seq_rule (c := ce9_18) rfl
def ce9_19 : SC := sSeq (sReg (seqI oe9_13)) ce9_18
@[simp] def ce9_19_ap := seq_rule (c := ce9_19) rfl
def ce9_20 : SC := sBlock 3 ce9_19
@[simp] def ce9_20_ap := block_rule (c := ce9_20) rfl
def oe9_16 : List IS := [ip 57 (pBin .add (tg 40) (cv (.int .i64 1))),
  ip 40 (pMov (tg 57))]
@[simp] def oe9_16_ap := ops_rule (c := oe9_16) rfl
def ce9_21 : SC := sSeq ce9_20 (sReg (seqI oe9_16))
@[simp] def ce9_21_ap := seq_rule (c := ce9_21) rfl
def ce9_22 : SC := sSeq ce9_15 ce9_21
@[simp] def ce9_22_ap := seq_rule (c := ce9_22) rfl
def ce9_23 : SC := sSeq (sReg (seqI oe9_12)) ce9_22
@[simp] def ce9_23_ap := seq_rule (c := ce9_23) rfl
def ce9_24 : SC := sLoop ce9_23
def ce9_25 : SC := sBlock 2 ce9_24
@[simp] def ce9_25_ap := block_rule (c := ce9_25) rfl
def ce9_26 : SC := sSeq (sReg (seqI oe9_11)) ce9_25
@[simp] def ce9_26_ap := seq_rule (c := ce9_26) rfl
def oe9_17 : List IS := [ip 2 (pMov (cv (.bool true)))]
@[simp] def oe9_17_ap := ops_rule (c := oe9_17) rfl
def ce9_27 : SC := sSeq (sReg (seqI oe9_17)) sRet
@[simp] def ce9_27_ap := seq_rule (c := ce9_27) rfl
def ce9_28 : SC := sSeq ce9_26 ce9_27
@[simp] def ce9_28_ap := seq_rule (c := ce9_28) rfl
def ce9_29 : SC := sSeq ce9_14 ce9_28
@[simp] def ce9_29_ap := seq_rule (c := ce9_29) rfl
def ce9_30 : SC := sSeq (sReg (seqI oe9_2)) ce9_29
@[simp] def ce9_30_ap := seq_rule (c := ce9_30) rfl
def ce9_31 : SC := sSeq (sReg (seqI oe9_1)) ce9_30
@[simp] def ce9_31_ap := seq_rule (c := ce9_31) rfl
def de9 : DFn := ⟨ce9_31, 58, [.t 2]⟩
theorem de9_ok : fnOf Tryz.prog 163 = some de9 := by kernel_rfl
def of6_1 : List IS := [ip 4 (pMov (cv (.int .u64 0)))]
@[simp] def of6_1_ap := ops_rule (c := of6_1) rfl
def of6_2 : List IS := [ip 5 (pMov (tg 0))]
@[simp] def of6_2_ap := ops_rule (c := of6_2) rfl
def of6_3 : List IS := [ip 7 (pBin .eql (tg 5) (cv (.int .i64 3))),
  ip 6 (pMov (tg 7))]
@[simp] def of6_3_ap := ops_rule (c := of6_3) rfl
def of6_4 : List IS := [ip 8 (pMov (tg 1)),
  ip 9 (pUn .neg (tg 8)),
  ip 4 (pMov (tg 9))]
@[simp] def of6_4_ap := ops_rule (c := of6_4) rfl
def cf6_1 : SC := sSeq (sReg (seqI of6_4)) sRet
@[simp] def cf6_1_ap := seq_rule (c := cf6_1) rfl
def of6_5 : List IS := [ip 11 (pBin .eql (tg 5) (cv (.int .i64 4))),
  ip 10 (pMov (tg 11))]
@[simp] def of6_5_ap := ops_rule (c := of6_5) rfl
def of6_6 : List IS := [ip 12 (pMov (tg 1)),
  ip 13 (pUn .xor (tg 12)),
  ip 4 (pMov (tg 13))]
@[simp] def of6_6_ap := ops_rule (c := of6_6) rfl
def cf6_2 : SC := sSeq (sReg (seqI of6_6)) sRet
@[simp] def cf6_2_ap := seq_rule (c := cf6_2) rfl
def cf6_3 : SC := sCond (tg 10) cf6_2 sSkip
@[simp] def cf6_3_ap := cond_rule (c := cf6_3) rfl
def cf6_4 : SC := sSeq (sReg (seqI of6_5)) cf6_3
@[simp] def cf6_4_ap := seq_rule (c := cf6_4) rfl
def cf6_5 : SC := sCond (tg 6) cf6_1 cf6_4
@[simp] def cf6_5_ap := cond_rule (c := cf6_5) rfl
def cf6_6 : SC := sSeq (sReg (seqI of6_3)) cf6_5
@[simp] def cf6_6_ap := seq_rule (c := cf6_6) rfl
def cf6_7 : SC := sBlock 0 cf6_6
@[simp] def cf6_7_ap := block_rule (c := cf6_7) rfl
def cf6_8 : SC := sSeq (sReg (seqI of6_2)) cf6_7
@[simp] def cf6_8_ap := seq_rule (c := cf6_8) rfl
def of6_7 : List IS := [ip 14 (pMov (tg 1)),
  ip 15 (pBin .eql (tg 14) (cv (.int .u64 0))),
  im 3 16 (mCall 270 [(tg 15)]),
  ip 4 (pMov (tg 16))]
@[simp] def of6_7_ap := ops_rule (c := of6_7) rfl
def cf6_9 : SC := sSeq (sReg (seqI of6_7)) sRet
@[simp] def cf6_9_ap := seq_rule (c := cf6_9) rfl
def cf6_10 : SC := sSeq cf6_8 cf6_9
@[simp] def cf6_10_ap := seq_rule (c := cf6_10) rfl
def cf6_11 : SC := sSeq (sReg (seqI of6_1)) cf6_10
@[simp] def cf6_11_ap := seq_rule (c := cf6_11) rfl
def df6 : DFn := ⟨cf6_11, 17, [.t 4]⟩
theorem df6_ok : fnOf Tryz.prog 220 = some df6 := by kernel_rfl
def of7_1 : List IS := [ip 6 (pMov (cv (.int .u64 0)))]
@[simp] def of7_1_ap := ops_rule (c := of7_1) rfl
def of7_2 : List IS := [ip 7 (pMov (tg 0))]
@[simp] def of7_2_ap := ops_rule (c := of7_2) rfl
def of7_3 : List IS := [ip 9 (pBin .eql (tg 7) (cv (.int .i64 6))),
  ip 8 (pMov (tg 9))]
@[simp] def of7_3_ap := ops_rule (c := of7_3) rfl
def of7_4 : List IS := [ip 10 (pMov (tg 1)),
  ip 11 (pMov (tg 2)),
  ip 12 (pBin .mul (tg 10) (tg 11)),
  ip 6 (pMov (tg 12))]
@[simp] def of7_4_ap := ops_rule (c := of7_4) rfl
def cf7_1 : SC := sSeq (sReg (seqI of7_4)) sRet
@[simp] def cf7_1_ap := seq_rule (c := cf7_1) rfl
def of7_5 : List IS := [ip 14 (pBin .eql (tg 7) (cv (.int .i64 7))),
  ip 13 (pMov (tg 14))]
@[simp] def of7_5_ap := ops_rule (c := of7_5) rfl
def of7_6 : List IS := [ip 15 (pMov (tg 1)),
  ip 16 (pMov (tg 2)),
  ip 17 (pBin .add (tg 15) (tg 16)),
  ip 6 (pMov (tg 17))]
@[simp] def of7_6_ap := ops_rule (c := of7_6) rfl
def cf7_2 : SC := sSeq (sReg (seqI of7_6)) sRet
@[simp] def cf7_2_ap := seq_rule (c := cf7_2) rfl
def of7_7 : List IS := [ip 19 (pBin .eql (tg 7) (cv (.int .i64 8))),
  ip 18 (pMov (tg 19))]
@[simp] def of7_7_ap := ops_rule (c := of7_7) rfl
def of7_8 : List IS := [ip 20 (pMov (tg 1)),
  ip 21 (pMov (tg 2)),
  ip 22 (pBin .sub (tg 20) (tg 21)),
  ip 6 (pMov (tg 22))]
@[simp] def of7_8_ap := ops_rule (c := of7_8) rfl
def cf7_3 : SC := sSeq (sReg (seqI of7_8)) sRet
@[simp] def cf7_3_ap := seq_rule (c := cf7_3) rfl
def of7_9 : List IS := [ip 24 (pBin .eql (tg 7) (cv (.int .i64 9))),
  ip 23 (pMov (tg 24))]
@[simp] def of7_9_ap := ops_rule (c := of7_9) rfl
def of7_10 : List IS := [ip 25 (pMov (tg 1)),
  ip 26 (pMov (tg 2)),
  ip 27 (pBin .and (tg 26) (cv (.int .u64 63))),
  ip 28 (pShift .shl (tg 25) (tg 27)),
  ip 6 (pMov (tg 28))]
@[simp] def of7_10_ap := ops_rule (c := of7_10) rfl
def cf7_4 : SC := sSeq (sReg (seqI of7_10)) sRet
@[simp] def cf7_4_ap := seq_rule (c := cf7_4) rfl
def of7_11 : List IS := [ip 30 (pBin .eql (tg 7) (cv (.int .i64 10))),
  ip 29 (pMov (tg 30))]
@[simp] def of7_11_ap := ops_rule (c := of7_11) rfl
def of7_12 : List IS := [ip 31 (pMov (tg 1)),
  ip 32 (pMov (tg 2)),
  ip 33 (pBin .and (tg 32) (cv (.int .u64 63))),
  ip 34 (pShift .shr (tg 31) (tg 33)),
  ip 6 (pMov (tg 34))]
@[simp] def of7_12_ap := ops_rule (c := of7_12) rfl
def cf7_5 : SC := sSeq (sReg (seqI of7_12)) sRet
@[simp] def cf7_5_ap := seq_rule (c := cf7_5) rfl
def of7_13 : List IS := [ip 36 (pBin .eql (tg 7) (cv (.int .i64 11))),
  ip 35 (pMov (tg 36))]
@[simp] def of7_13_ap := ops_rule (c := of7_13) rfl
def of7_14 : List IS := [ip 37 (pMov (tg 1)),
  ip 38 (pMov (tg 2)),
  ip 39 (pBin .and (tg 37) (tg 38)),
  ip 6 (pMov (tg 39))]
@[simp] def of7_14_ap := ops_rule (c := of7_14) rfl
def cf7_6 : SC := sSeq (sReg (seqI of7_14)) sRet
@[simp] def cf7_6_ap := seq_rule (c := cf7_6) rfl
def of7_15 : List IS := [ip 41 (pBin .eql (tg 7) (cv (.int .i64 12))),
  ip 40 (pMov (tg 41))]
@[simp] def of7_15_ap := ops_rule (c := of7_15) rfl
def of7_16 : List IS := [ip 42 (pMov (tg 1)),
  ip 43 (pMov (tg 2)),
  ip 44 (pBin .xor (tg 42) (tg 43)),
  ip 6 (pMov (tg 44))]
@[simp] def of7_16_ap := ops_rule (c := of7_16) rfl
def cf7_7 : SC := sSeq (sReg (seqI of7_16)) sRet
@[simp] def cf7_7_ap := seq_rule (c := cf7_7) rfl
def of7_17 : List IS := [ip 46 (pBin .eql (tg 7) (cv (.int .i64 13))),
  ip 45 (pMov (tg 46))]
@[simp] def of7_17_ap := ops_rule (c := of7_17) rfl
def of7_18 : List IS := [ip 47 (pMov (tg 1)),
  ip 48 (pMov (tg 2)),
  ip 49 (pBin .or (tg 47) (tg 48)),
  ip 6 (pMov (tg 49))]
@[simp] def of7_18_ap := ops_rule (c := of7_18) rfl
def cf7_8 : SC := sSeq (sReg (seqI of7_18)) sRet
@[simp] def cf7_8_ap := seq_rule (c := cf7_8) rfl
def of7_19 : List IS := [ip 51 (pBin .eql (tg 7) (cv (.int .i64 14))),
  ip 50 (pMov (tg 51))]
@[simp] def of7_19_ap := ops_rule (c := of7_19) rfl
def of7_20 : List IS := [ip 52 (pMov (tg 1)),
  ip 53 (pMov (tg 2)),
  ip 54 (pBin .eql (tg 52) (tg 53)),
  im 3 55 (mCall 270 [(tg 54)]),
  ip 6 (pMov (tg 55))]
@[simp] def of7_20_ap := ops_rule (c := of7_20) rfl
def cf7_9 : SC := sSeq (sReg (seqI of7_20)) sRet
@[simp] def cf7_9_ap := seq_rule (c := cf7_9) rfl
def of7_21 : List IS := [ip 57 (pBin .eql (tg 7) (cv (.int .i64 15))),
  ip 56 (pMov (tg 57))]
@[simp] def of7_21_ap := ops_rule (c := of7_21) rfl
def of7_22 : List IS := [ip 58 (pMov (tg 1)),
  ip 59 (pMov (tg 2)),
  ip 60 (pBin .neq (tg 58) (tg 59)),
  im 3 61 (mCall 270 [(tg 60)]),
  ip 6 (pMov (tg 61))]
@[simp] def of7_22_ap := ops_rule (c := of7_22) rfl
def cf7_10 : SC := sSeq (sReg (seqI of7_22)) sRet
@[simp] def cf7_10_ap := seq_rule (c := cf7_10) rfl
def of7_23 : List IS := [ip 63 (pBin .eql (tg 7) (cv (.int .i64 16))),
  ip 62 (pMov (tg 63))]
@[simp] def of7_23_ap := ops_rule (c := of7_23) rfl
def of7_24 : List IS := [ip 64 (pMov (tg 1)),
  ip 65 (pMov (tg 2)),
  ip 66 (pBin .lss (tg 64) (tg 65)),
  im 3 67 (mCall 270 [(tg 66)]),
  ip 6 (pMov (tg 67))]
@[simp] def of7_24_ap := ops_rule (c := of7_24) rfl
def cf7_11 : SC := sSeq (sReg (seqI of7_24)) sRet
@[simp] def cf7_11_ap := seq_rule (c := cf7_11) rfl
def of7_25 : List IS := [ip 69 (pBin .eql (tg 7) (cv (.int .i64 17))),
  ip 68 (pMov (tg 69))]
@[simp] def of7_25_ap := ops_rule (c := of7_25) rfl
def of7_26 : List IS := [ip 70 (pMov (tg 1)),
  ip 71 (pMov (tg 2)),
  ip 72 (pBin .leq (tg 70) (tg 71)),
  im 3 73 (mCall 270 [(tg 72)]),
  ip 6 (pMov (tg 73))]
@[simp] def of7_26_ap := ops_rule (c := of7_26) rfl
def cf7_12 : SC := sSeq (sReg (seqI of7_26)) sRet
@[simp] def cf7_12_ap := seq_rule (c := cf7_12) rfl
def of7_27 : List IS := [ip 75 (pBin .eql (tg 7) (cv (.int .i64 18))),
  ip 74 (pMov (tg 75))]
@[simp] def of7_27_ap := ops_rule (c := of7_27) rfl
def of7_28 : List IS := [ip 76 (pMov (tg 1)),
  ip 77 (pMov (tg 2)),
  ip 78 (pBin .gtr (tg 76) (tg 77)),
  im 3 79 (mCall 270 [(tg 78)]),
  ip 6 (pMov (tg 79))]
@[simp] def of7_28_ap := ops_rule (c := of7_28) rfl
def cf7_13 : SC := sSeq (sReg (seqI of7_28)) sRet
@[simp] def cf7_13_ap := seq_rule (c := cf7_13) rfl
def cf7_14 : SC := sCond (tg 74) cf7_13 sSkip
@[simp] def cf7_14_ap := cond_rule (c := cf7_14) rfl
def cf7_15 : SC := sSeq (sReg (seqI of7_27)) cf7_14
@[simp] def cf7_15_ap := seq_rule (c := cf7_15) rfl
def cf7_16 : SC := sCond (tg 68) cf7_12 cf7_15
@[simp] def cf7_16_ap := cond_rule (c := cf7_16) rfl
def cf7_17 : SC := sSeq (sReg (seqI of7_25)) cf7_16
@[simp] def cf7_17_ap := seq_rule (c := cf7_17) rfl
def cf7_18 : SC := sCond (tg 62) cf7_11 cf7_17
@[simp] def cf7_18_ap := cond_rule (c := cf7_18) rfl
def cf7_19 : SC := sSeq (sReg (seqI of7_23)) cf7_18
@[simp] def cf7_19_ap := seq_rule (c := cf7_19) rfl
def cf7_20 : SC := sCond (tg 56) cf7_10 cf7_19
@[simp] def cf7_20_ap := cond_rule (c := cf7_20) rfl
def cf7_21 : SC := sSeq (sReg (seqI of7_21)) cf7_20
@[simp] def cf7_21_ap := seq_rule (c := cf7_21) rfl
def cf7_22 : SC := sCond (tg 50) cf7_9 cf7_21
@[simp] def cf7_22_ap := cond_rule (c := cf7_22) rfl
def cf7_23 : SC := sSeq (sReg (seqI of7_19)) cf7_22
@[simp] def cf7_23_ap := seq_rule (c := cf7_23) rfl
def cf7_24 : SC := sCond (tg 45) cf7_8 cf7_23
@[simp] def cf7_24_ap := cond_rule (c := cf7_24) rfl
def cf7_25 : SC := sSeq (sReg (seqI of7_17)) cf7_24
@[simp] def cf7_25_ap := seq_rule (c := cf7_25) rfl
def cf7_26 : SC := sCond (tg 40) cf7_7 cf7_25
@[simp] def cf7_26_ap := cond_rule (c := cf7_26) rfl
def cf7_27 : SC := sSeq (sReg (seqI of7_15)) cf7_26
@[simp] def cf7_27_ap := seq_rule (c := cf7_27) rfl
def cf7_28 : SC := sCond (tg 35) cf7_6 cf7_27
@[simp] def cf7_28_ap := cond_rule (c := cf7_28) rfl
def cf7_29 : SC := sSeq (sReg (seqI of7_13)) cf7_28
@[simp] def cf7_29_ap := seq_rule (c := cf7_29) rfl
def cf7_30 : SC := sCond (tg 29) cf7_5 cf7_29
@[simp] def cf7_30_ap := cond_rule (c := cf7_30) rfl
def cf7_31 : SC := sSeq (sReg (seqI of7_11)) cf7_30
@[simp] def cf7_31_ap := seq_rule (c := cf7_31) rfl
def cf7_32 : SC := sCond (tg 23) cf7_4 cf7_31
@[simp] def cf7_32_ap := cond_rule (c := cf7_32) rfl
def cf7_33 : SC := sSeq (sReg (seqI of7_9)) cf7_32
@[simp] def cf7_33_ap := seq_rule (c := cf7_33) rfl
def cf7_34 : SC := sCond (tg 18) cf7_3 cf7_33
@[simp] def cf7_34_ap := cond_rule (c := cf7_34) rfl
def cf7_35 : SC := sSeq (sReg (seqI of7_7)) cf7_34
@[simp] def cf7_35_ap := seq_rule (c := cf7_35) rfl
def cf7_36 : SC := sCond (tg 13) cf7_2 cf7_35
@[simp] def cf7_36_ap := cond_rule (c := cf7_36) rfl
def cf7_37 : SC := sSeq (sReg (seqI of7_5)) cf7_36
@[simp] def cf7_37_ap := seq_rule (c := cf7_37) rfl
def cf7_38 : SC := sCond (tg 8) cf7_1 cf7_37
@[simp] def cf7_38_ap := cond_rule (c := cf7_38) rfl
def cf7_39 : SC := sSeq (sReg (seqI of7_3)) cf7_38
@[simp] def cf7_39_ap := seq_rule (c := cf7_39) rfl
def cf7_40 : SC := sBlock 0 cf7_39
@[simp] def cf7_40_ap := block_rule (c := cf7_40) rfl
def cf7_41 : SC := sSeq (sReg (seqI of7_2)) cf7_40
@[simp] def cf7_41_ap := seq_rule (c := cf7_41) rfl
def of7_29 : List IS := [ip 80 (pMov (tg 1)),
  ip 81 (pMov (tg 2)),
  ip 82 (pBin .geq (tg 80) (tg 81)),
  im 3 83 (mCall 270 [(tg 82)]),
  ip 6 (pMov (tg 83))]
@[simp] def of7_29_ap := ops_rule (c := of7_29) rfl
def cf7_42 : SC := sSeq (sReg (seqI of7_29)) sRet
@[simp] def cf7_42_ap := seq_rule (c := cf7_42) rfl
def cf7_43 : SC := sSeq cf7_41 cf7_42
@[simp] def cf7_43_ap := seq_rule (c := cf7_43) rfl
def cf7_44 : SC := sSeq (sReg (seqI of7_1)) cf7_43
@[simp] def cf7_44_ap := seq_rule (c := cf7_44) rfl
def df7 : DFn := ⟨cf7_44, 84, [.t 6]⟩
theorem df7_ok : fnOf Tryz.prog 221 = some df7 := by kernel_rfl
def of8_1 : List IS := [ip 2 (pMov (cv (.int .u64 0)))]
@[simp] def of8_1_ap := ops_rule (c := of8_1) rfl
def of8_2 : List IS := [ip 3 (pMov (tg 0))]
@[simp] def of8_2_ap := ops_rule (c := of8_2) rfl
def of8_3 : List IS := [ip 2 (pMov (cv (.int .u64 1)))]
@[simp] def of8_3_ap := ops_rule (c := of8_3) rfl
def cf8_1 : SC := sSeq (sReg (seqI of8_3)) sRet
@[simp] def cf8_1_ap := seq_rule (c := cf8_1) rfl
def cf8_2 : SC := sCond (tg 3) cf8_1 sSkip
@[simp] def cf8_2_ap := cond_rule (c := cf8_2) rfl
def cf8_3 : SC := sSeq (sReg (seqI of8_2)) cf8_2
@[simp] def cf8_3_ap := seq_rule (c := cf8_3) rfl
def of8_4 : List IS := [ip 2 (pMov (cv (.int .u64 0)))]
@[simp] def of8_4_ap := ops_rule (c := of8_4) rfl
def cf8_4 : SC := sSeq (sReg (seqI of8_4)) sRet
@[simp] def cf8_4_ap := seq_rule (c := cf8_4) rfl
def cf8_5 : SC := sSeq cf8_3 cf8_4
@[simp] def cf8_5_ap := seq_rule (c := cf8_5) rfl
def cf8_6 : SC := sSeq (sReg (seqI of8_1)) cf8_5
@[simp] def cf8_6_ap := seq_rule (c := cf8_6) rfl
def df8 : DFn := ⟨cf8_6, 4, [.t 2]⟩
theorem df8_ok : fnOf Tryz.prog 270 = some df8 := by kernel_rfl
end
end Go.Sx
