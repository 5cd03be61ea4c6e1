/- Compiled code. -/
import Derived.Test.YtblkdbffpjlkaaaGreatGb
import Derived.Test.YtblkdbffpjlkaaaGreatGa
import Derived.Test.YtblkdbffpjlkaaaGreatProg
import Derived.KernelRfl
set_option linter.unusedVariables false
set_option linter.unusedSimpArgs false
set_option linter.defProp false
/- Compiled code: printed by a program. -/
namespace Go.Sx
open Go.Dx Go.Proofs
noncomputable section
def oa0_1 : List IS := [im 1 3 (mBox (tg 0)),
  ip 6 (pMov (cv (.bool false)))]
@[simp] def oa0_1_ap := ops_rule (c := oa0_1) rfl
def oa0_2 : List IS := [im 3 19 (mCall 11 []),
  ip 20 (pUn .not (tg 19))]
@[simp] def oa0_2_ap := ops_rule (c := oa0_2) rfl
def oa0_3 : List IS := [ip 6 (pMov (cv (.bool false)))]
def ca0_1 : SC := sSeq (sReg (seqI oa0_3)) sRet
def ca0_2 : SC := sCond (tg 20) ca0_1 sSkip
@[simp] def ca0_2_ap := cond_rule (c := ca0_2) rfl
def ca0_3 : SC := sSeq (sReg (seqI oa0_2)) ca0_2
@[simp] def ca0_3_ap := seq_rule (c := ca0_3) rfl
def oa0_4 : List IS := [il 21 (tg 3) (mLoadN 2 (tg 3)),
  im 3 22 (mCall 6 [(tg 21)]),
  im 1 7 (mAlloc [(.int .i64 0), (.slice none 0 0)]),
  im0 3 (mStore 2 (tg 7) (tg 22))]
@[simp] def oa0_4_ap := ops_rule (c := oa0_4) rfl
def oa0_5 : List IS := [il 24 (tg 7) (mLoadN 2 (tg 7)),
  ip 25 (pMov (tg 1)),
  im 3 26 (mCall 12 [(tg 24), (tg 25)]),
  ip 23 (pMov (tg 26)),
  ip 27 (pExtract (tg 23) 0),
  ip 28 (pExtract (tg 23) 1),
  ip 8 (pMov (tg 27)),
  ip 9 (pMov (tg 28))]
@[simp] def oa0_5_ap := ops_rule (c := oa0_5) rfl
def oa0_6 : List IS := [il 29 (tg 3) (mLoadN 2 (tg 3)),
  im 3 30 (mCall 13 [(tg 29)]),
  ip 31 (pUn .not (tg 30)),
  ip 32 (pMov (tg 31)),
  gd 32 false (some 33) (ip 33 (pMov (tg 1))),
  gd 32 false (some 34) (ip 34 (pBin .lss (tg 33) (cv (.int .i64 0)))),
  ip 35 (pPick (tg 32) (cv (.bool true)) (tg 34)),
  ip 36 (pMov (tg 35)),
  gd 36 false (some 37) (ip 37 (pMov (tg 1))),
  gd 36 false (some 38) (ip 38 (pFaddr 1 (tg 3))),
  gd 36 false (some 39) (il 39 (tg 38) (mLoad1 (tg 38))),
  gd 36 false (some 40) (ip 40 (pLen (tg 39))),
  gd 36 false (some 41) (ip 41 (pBin .geq (tg 37) (tg 40))),
  ip 42 (pPick (tg 36) (cv (.bool true)) (tg 41))]
@[simp] def oa0_6_ap := ops_rule (c := oa0_6) rfl
def oa0_7 : List IS := [ip 43 (pMov (tg 9)),
  ip 44 (pBin .eql (tg 43) (cv (.int .i64 1))),
  ip 45 (pMov (tg 44)),
  gd 45 true (some 46) (ip 46 (pMov (tg 8))),
  gd 45 true (some 47) (ip 47 (pEqN false nilP true (tg 46) (cv (.pointer none)))),
  ip 48 (pPick (tg 45) (tg 47) (cv (.bool false))),
  ip 6 (pMov (tg 48))]
@[simp] def oa0_7_ap := ops_rule (c := oa0_7) rfl
def ca0_4 : SC := sSeq (sReg (seqI oa0_7)) sRet
@[simp] def ca0_4_ap := seq_rule (c := ca0_4) rfl
def ca0_5 : SC := sCond (tg 42) ca0_4 sSkip
@[simp] def ca0_5_ap := cond_rule (c := ca0_5) rfl
def ca0_6 : SC := sSeq (sReg (seqI oa0_6)) ca0_5
@[simp] def ca0_6_ap := seq_rule (c := ca0_6) rfl
def oa0_8 : List IS := [ip 49 (pMov (tg 9)),
  ip 50 (pBin .neq (tg 49) (cv (.int .i64 0))),
  ip 51 (pMov (tg 50)),
  gd 51 false (some 52) (ip 52 (pMov (tg 8))),
  gd 51 false (some 53) (ip 53 (pEqN false nilP true (tg 52) (cv (.pointer none)))),
  ip 54 (pPick (tg 51) (cv (.bool true)) (tg 53)),
  ip 55 (pMov (tg 54)),
  gd 55 false (some 56) (ip 56 (pMov (tg 8))),
  gd 55 false (some 57) (im 3 57 (mCall 14 [(tg 56), (cv (.int .u64 3))])),
  gd 55 false (some 58) (ip 58 (pBin .neq (tg 57) (cv (.int .i64 1)))),
  ip 59 (pPick (tg 55) (cv (.bool true)) (tg 58))]
@[simp] def oa0_8_ap := ops_rule (c := oa0_8) rfl
def oa0_9 : List IS := [ip 6 (pMov (cv (.bool false)))]
def ca0_7 : SC := sSeq (sReg (seqI oa0_9)) sRet
def ca0_8 : SC := sCond (tg 59) ca0_7 sSkip
@[simp] def ca0_8_ap := cond_rule (c := ca0_8) rfl
def ca0_9 : SC := sSeq (sReg (seqI oa0_8)) ca0_8
@[simp] def ca0_9_ap := seq_rule (c := ca0_9) rfl
def oa0_10 : List IS := [il 60 (tg 7) (mLoadN 2 (tg 7)),
  im 3 61 (mCall 15 [(tg 60)])]
@[simp] def oa0_10_ap := ops_rule (c := oa0_10) rfl
def oa0_11 : List IS := [ip 62 (pFaddr 1 (tg 3)),
  il 63 (tg 62) (mLoad1 (tg 62)),
  ip 64 (pMov (tg 1)),
  ip 65 (pIaddrS 2 (tg 63) (tg 64)),
  il 66 (tg 65) (mLoadN 2 (tg 65)),
  im 3 67 (mCall 16 [(tg 66)]),
  im 1 10 (mAlloc [(.int .i64 0), (.slice none 0 0), (.int .i64 0), (.slice none 0 0)]),
  im0 3 (mStore 4 (tg 10) (tg 67))]
@[simp] def oa0_11_ap := ops_rule (c := oa0_11) rfl
def oa0_12 : List IS := [ip 11 (pMov (cv (.int .i64 0)))]
@[simp] def oa0_12_ap := ops_rule (c := oa0_12) rfl
def oa0_13 : List IS := [ip 12 (pMov (cv (.int .i64 0)))]
@[simp] def oa0_13_ap := ops_rule (c := oa0_13) rfl
def oa0_14 : List IS := [ip 13 (pMov (cv (.int .i64 0)))]
@[simp] def oa0_14_ap := ops_rule (c := oa0_14) rfl
def oa0_15 : List IS := [ip 68 (pMov (tg 13)),
  ip 69 (pBin .lss (tg 68) (cv (.int .i64 200)))]
@[simp] def oa0_15_ap := ops_rule (c := oa0_15) rfl
def ca0_10 : SC := sCond (tg 69) sSkip (sExit 0)
@[simp] def ca0_10_ap := cond_rule (c := ca0_10) rfl
def ca0_11 : SC := sSeq (sReg (seqI oa0_15)) ca0_10
@[simp] def ca0_11_ap := seq_rule (c := ca0_11) rfl
def oa0_16 : List IS := [il 73 (tg 10) (mLoadN 4 (tg 10)),
  im 3 74 (mCall 17 [(tg 73)]),
  ip 72 (pMov (tg 74)),
  ip 75 (pExtract (tg 72) 0),
  ip 76 (pExtract (tg 72) 1),
  im 1 14 (mAlloc [(.int .i64 0), (.slice none 0 0), (.int .i64 0), (.slice none 0 0)]),
  im 1 15 (mAlloc [(.int .i64 0), (.int .i64 0), (.int .i64 0), (.int .u64 0), (.bool false), (.bool false)]),
  im0 3 (mStore 4 (tg 14) (tg 75)),
  im0 3 (mStore 6 (tg 15) (tg 76))]
@[simp] def oa0_16_ap := ops_rule (c := oa0_16) rfl
def oa0_17 : List IS := [il 77 (tg 14) (mLoadN 4 (tg 14)),
  im0 3 (mStore 4 (tg 10) (tg 77))]
@[simp] def oa0_17_ap := ops_rule (c := oa0_17) rfl
def oa0_18 : List DA := [⟨CI.pure (pMov (tg 8)), (some 78), none, 0, []⟩,
  ⟨CI.mem 3 (mCall 18 [(tg 78)]), (some 79), none, 1, []⟩,
  ⟨CI.load (tg 15) (mLoadN 6 (tg 15)), (some 80), none, 2, [1]⟩,
  ⟨CI.pure (pEqF true [1, 1, 1, 1, 0, 0] (tg 79) (tg 80)), (some 81), none, 3, []⟩]
@[simp] def oa0_18_ap := das_rule (c := oa0_18) rfl
def oa0_19 : List IS := [ip 6 (pMov (cv (.bool false)))]
def ca0_12 : SC := sSeq (sReg (seqI oa0_19)) sRet
def ca0_13 : SC := sCond (tg 81) ca0_12 sSkip
@[simp] def ca0_13_ap := cond_rule (c := ca0_13) rfl
def ca0_14 : SC := sSeq (sAny oa0_18) ca0_13
@[simp] def ca0_14_ap := seq_rule (c := ca0_14) rfl
def oa0_20 : List IS := [ip 82 (pFaddr 0 (tg 15)),
  il 83 (tg 82) (mLoad1 (tg 82)),
  ip 84 (pBin .eql (tg 83) (cv (.int .i64 5)))]
@[simp] def oa0_20_ap := ops_rule (c := oa0_20) rfl
def oa0_21 : List DA := [⟨CI.pure (pMov (tg 8)), (some 85), none, 0, []⟩,
  ⟨CI.load (tg 10) (mLoadN 4 (tg 10)), (some 86), none, 1, []⟩,
  ⟨CI.load (tg 15) (mLoadN 6 (tg 15)), (some 87), none, 2, []⟩,
  ⟨CI.mem 3 (mCall 19 [(tg 85), (tg 86), (tg 87)]), (some 88), none, 3, []⟩,
  ⟨CI.pure (pMov (tg 88)), (some 89), none, 4, []⟩,
  ⟨CI.pure (pMov (tg 8)), (some 90), (some (89, true)), 5, []⟩,
  ⟨CI.mem 3 (mCall 14 [(tg 90), (cv (.int .u64 1))]), (some 91), (some (89, true)), 6, []⟩,
  ⟨CI.pure (pBin .eql (tg 91) (cv (.int .i64 1))), (some 92), (some (89, true)), 7, []⟩,
  ⟨CI.pure (pPick (tg 89) (tg 92) (cv (.bool false))), (some 93), none, 8, []⟩,
  ⟨CI.pure (pMov (tg 93)), (some 94), none, 9, []⟩,
  ⟨CI.pure (pMov (tg 8)), (some 95), (some (94, true)), 10, []⟩,
  ⟨CI.mem 3 (mCall 18 [(tg 95)]), (some 96), (some (94, true)), 11, []⟩,
  ⟨CI.load (tg 15) (mLoadN 6 (tg 15)), (some 97), (some (94, true)), 12, [11]⟩,
  ⟨CI.pure (pEqF false [1, 1, 1, 1, 0, 0] (tg 96) (tg 97)), (some 98), (some (94, true)), 13, []⟩,
  ⟨CI.pure (pPick (tg 94) (tg 98) (cv (.bool false))), (some 99), none, 14, []⟩,
  ⟨CI.pure (pMov (tg 99)), (some 6), none, 15, []⟩]
@[simp] def oa0_21_ap := das_rule (c := oa0_21) rfl
def ca0_15 : SC := sSeq (sAny oa0_21) sRet
@[simp] def ca0_15_ap := seq_rule (c := ca0_15) rfl
def ca0_16 : SC := sCond (tg 84) ca0_15 sSkip
@[simp] def ca0_16_ap := cond_rule (c := ca0_16) rfl
def ca0_17 : SC := sSeq (sReg (seqI oa0_20)) ca0_16
@[simp] def ca0_17_ap := seq_rule (c := ca0_17) rfl
def oa0_22 : List IS := [ip 100 (pFaddr 0 (tg 15)),
  il 101 (tg 100) (mLoad1 (tg 100)),
  ip 102 (pBin .eql (tg 101) (cv (.int .i64 6)))]
@[simp] def oa0_22_ap := ops_rule (c := oa0_22) rfl
def oa0_23 : List IS := [ip 103 (pMov (tg 12)),
  ip 104 (pBin .add (tg 103) (cv (.int .i64 1))),
  ip 12 (pMov (tg 104))]
@[simp] def oa0_23_ap := ops_rule (c := oa0_23) rfl
def oa0_24 : List IS := [ip 105 (pMov (tg 8)),
  im 3 106 (mCall 14 [(tg 105), (cv (.int .u64 1))]),
  ip 107 (pBin .neq (tg 106) (cv (.int .i64 1)))]
@[simp] def oa0_24_ap := ops_rule (c := oa0_24) rfl
def oa0_25 : List IS := [ip 6 (pMov (cv (.bool false)))]
def ca0_18 : SC := sSeq (sReg (seqI oa0_25)) sRet
def ca0_19 : SC := sCond (tg 107) ca0_18 sSkip
@[simp] def ca0_19_ap := cond_rule (c := ca0_19) rfl
def ca0_20 : SC := sSeq (sReg (seqI oa0_24)) ca0_19
@[simp] def ca0_20_ap := seq_rule (c := ca0_20) rfl
def oa0_26 : List IS := [ip 108 (pMov (tg 12)),
  ip 109 (pBin .eql (tg 108) (cv (.int .i64 3)))]
@[simp] def oa0_26_ap := ops_rule (c := oa0_26) rfl
def oa0_27 : List IS := [ip 6 (pMov (cv (.bool true)))]
@[simp] def oa0_27_ap := ops_rule (c := oa0_27) rfl
def ca0_21 : SC := sSeq (sReg (seqI oa0_27)) sRet
@[simp] def ca0_21_ap := seq_rule (c := ca0_21) rfl
def ca0_22 : SC := sCond (tg 109) ca0_21 sSkip
@[simp] def ca0_22_ap := cond_rule (c := ca0_22) rfl
def ca0_23 : SC := sSeq (sReg (seqI oa0_26)) ca0_22
@[simp] def ca0_23_ap := seq_rule (c := ca0_23) rfl
def ca0_24 : SC := sSeq ca0_23 (sExit 1)
@[simp] def ca0_24_ap := seq_rule (c := ca0_24) rfl
def ca0_25 : SC := sSeq ca0_20 ca0_24
@[simp] def ca0_25_ap := seq_rule (c := ca0_25) rfl
def ca0_26 : SC := sSeq (sReg (seqI oa0_23)) ca0_25
@[simp] def ca0_26_ap := seq_rule (c := ca0_26) rfl
def ca0_27 : SC := sCond (tg 102) ca0_26 sSkip
@[simp] def ca0_27_ap := cond_rule (c := ca0_27) rfl
def ca0_28 : SC := sSeq (sReg (seqI oa0_22)) ca0_27
@[simp] def ca0_28_ap := seq_rule (c := ca0_28) rfl
def oa0_28 : List IS := [ip 110 (pMov (tg 8)),
  il 111 (tg 10) (mLoadN 4 (tg 10)),
  il 112 (tg 15) (mLoadN 6 (tg 15)),
  im 3 113 (mCall 19 [(tg 110), (tg 111), (tg 112)]),
  ip 114 (pUn .not (tg 113))]
@[simp] def oa0_28_ap := ops_rule (c := oa0_28) rfl
def oa0_29 : List IS := [ip 6 (pMov (cv (.bool false)))]
def ca0_29 : SC := sSeq (sReg (seqI oa0_29)) sRet
def ca0_30 : SC := sCond (tg 114) ca0_29 sSkip
@[simp] def ca0_30_ap := cond_rule (c := ca0_30) rfl
def ca0_31 : SC := sSeq (sReg (seqI oa0_28)) ca0_30
@[simp] def ca0_31_ap := seq_rule (c := ca0_31) rfl
def oa0_30 : List IS := [ip 115 (pMov (tg 8)),
  im 3 116 (mCall 20 [(tg 115)]),
  ip 16 (pMov (tg 116))]
@[simp] def oa0_30_ap := ops_rule (c := oa0_30) rfl
def oa0_31 : List DA := [⟨CI.pure (pMov (tg 16)), (some 117), none, 0, []⟩,
  ⟨CI.pure (pEqN false nilP true (tg 117) (cv (.pointer none))), (some 118), none, 1, []⟩,
  ⟨CI.pure (pMov (tg 118)), (some 119), none, 2, []⟩,
  ⟨CI.pure (pMov (tg 16)), (some 120), (some (119, false)), 3, []⟩,
  ⟨CI.mem 3 (mCall 14 [(tg 120), (cv (.int .u64 1))]), (some 121), (some (119, false)), 4, []⟩,
  ⟨CI.pure (pBin .neq (tg 121) (cv (.int .i64 1))), (some 122), (some (119, false)), 5, []⟩,
  ⟨CI.pure (pPick (tg 119) (cv (.bool true)) (tg 122)), (some 123), none, 6, []⟩,
  ⟨CI.pure (pMov (tg 123)), (some 124), none, 7, []⟩,
  ⟨CI.pure (pMov (tg 16)), (some 125), (some (124, false)), 8, []⟩,
  ⟨CI.mem 3 (mCall 18 [(tg 125)]), (some 126), (some (124, false)), 9, []⟩,
  ⟨CI.load (tg 15) (mLoadN 6 (tg 15)), (some 127), (some (124, false)), 10, [9]⟩,
  ⟨CI.pure (pEqF true [1, 1, 1, 1, 0, 0] (tg 126) (tg 127)), (some 128), (some (124, false)), 11, []⟩,
  ⟨CI.pure (pPick (tg 124) (cv (.bool true)) (tg 128)), (some 129), none, 12, []⟩]
@[simp] def oa0_31_ap := das_rule (c := oa0_31) rfl
def oa0_32 : List IS := [ip 6 (pMov (cv (.bool false)))]
def ca0_32 : SC := sSeq (sReg (seqI oa0_32)) sRet
def ca0_33 : SC := sCond (tg 129) ca0_32 sSkip
@[simp] def ca0_33_ap := cond_rule (c := ca0_33) rfl
def ca0_34 : SC := sSeq (sAny oa0_31) ca0_33
@[simp] def ca0_34_ap := seq_rule (c := ca0_34) rfl
def oa0_33 : List IS := [ip 130 (pMov (tg 13)),
  ip 131 (pConvI .u64 (tg 130)),
  ip 17 (pMov (tg 131))]
@[simp] def oa0_33_ap := ops_rule (c := oa0_33) rfl
def oa0_34 : List IS := [ip 132 (pFaddr 0 (tg 15)),
  il 133 (tg 132) (mLoad1 (tg 132)),
  ip 134 (pBin .eql (tg 133) (cv (.int .i64 1))),
  ip 135 (pMov (tg 134)),
  gd 135 true (some 136) (ip 136 (pMov (tg 11))),
  gd 135 true (some 137) (ip 137 (pMov (tg 2))),
  gd 135 true (some 138) (ip 138 (pLen (tg 137))),
  gd 135 true (some 139) (ip 139 (pBin .lss (tg 136) (tg 138))),
  ip 140 (pPick (tg 135) (tg 139) (cv (.bool false)))]
@[simp] def oa0_34_ap := ops_rule (c := oa0_34) rfl
def oa0_35 : List IS := [ip 141 (pMov (tg 2)),
  ip 142 (pMov (tg 11)),
  ip 143 (pIaddrS 1 (tg 141) (tg 142)),
  il 144 (tg 143) (mLoad1 (tg 143)),
  ip 17 (pMov (tg 144))]
@[simp] def oa0_35_ap := ops_rule (c := oa0_35) rfl
def oa0_36 : List IS := [ip 145 (pMov (tg 11)),
  ip 146 (pBin .add (tg 145) (cv (.int .i64 1))),
  ip 11 (pMov (tg 146))]
@[simp] def oa0_36_ap := ops_rule (c := oa0_36) rfl
def ca0_35 : SC := sSeq (sReg (seqI oa0_35)) (sReg (seqI oa0_36))
@[simp] def ca0_35_ap := seq_rule (c := ca0_35) rfl
def ca0_36 : SC := sCond (tg 140) ca0_35 sSkip
@[simp] def ca0_36_ap := cond_rule (c := ca0_36) rfl
def ca0_37 : SC := sSeq (sReg (seqI oa0_34)) ca0_36
@[simp] def ca0_37_ap := seq_rule (c := ca0_37) rfl
def oa0_37 : List IS := [ip 147 (pMov (tg 16)),
  ip 148 (pMov (tg 17)),
  ip 149 (pBin .add (tg 148) (cv (.int .u64 1))),
  im 3 150 (mCall 14 [(tg 147), (tg 149)])]
@[simp] def oa0_37_ap := ops_rule (c := oa0_37) rfl
def oa0_38 : List IS := [ip 151 (pMov (tg 16)),
  im 3 152 (mCall 18 [(tg 151)])]
@[simp] def oa0_38_ap := ops_rule (c := oa0_38) rfl
def oa0_39 : List IS := [ip 153 (pMov (tg 8)),
  ip 154 (pMov (tg 17)),
  im 3 155 (mCall 14 [(tg 153), (tg 154)]),
  ip 156 (pBin .neq (tg 155) (cv (.int .i64 0))),
  ip 157 (pMov (tg 156)),
  gd 157 false (some 158) (ip 158 (pMov (tg 8))),
  gd 157 false (some 159) (ip 159 (pMov (tg 17))),
  gd 157 false (some 160) (im 3 160 (mCall 14 [(tg 158), (tg 159)])),
  gd 157 false (some 161) (ip 161 (pBin .neq (tg 160) (cv (.int .i64 1)))),
  ip 162 (pPick (tg 157) (cv (.bool true)) (tg 161))]
@[simp] def oa0_39_ap := ops_rule (c := oa0_39) rfl
def oa0_40 : List IS := [ip 6 (pMov (cv (.bool false)))]
def ca0_38 : SC := sSeq (sReg (seqI oa0_40)) sRet
def ca0_39 : SC := sCond (tg 162) ca0_38 sSkip
@[simp] def ca0_39_ap := cond_rule (c := ca0_39) rfl
def ca0_40 : SC := sSeq (sReg (seqI oa0_39)) ca0_39
@[simp] def ca0_40_ap := seq_rule (c := ca0_40) rfl
def oa0_41 : List IS := [ip 163 (pFaddr 0 (tg 15)),
  il 164 (tg 163) (mLoad1 (tg 163)),
  ip 165 (pBin .eql (tg 164) (cv (.int .i64 1))),
  ip 166 (pMov (tg 165)),
  gd 166 true (some 167) (ip 167 (pFaddr 4 (tg 15))),
  gd 166 true (some 168) (il 168 (tg 167) (mLoad1 (tg 167))),
  ip 169 (pPick (tg 166) (tg 168) (cv (.bool false)))]
@[simp] def oa0_41_ap := ops_rule (c := oa0_41) rfl
def oa0_42 : List IS := [il 170 (tg 10) (mLoadN 4 (tg 10)),
  ip 171 (pMov (tg 17)),
  im 3 172 (mCall 21 [(tg 170), (tg 171)]),
  im 1 18 (mAlloc [(.int .i64 0), (.int .i64 0), (.int .i64 0), (.int .u64 0), (.bool false), (.bool false)]),
  im0 3 (mStore 6 (tg 18) (tg 172))]
@[simp] def oa0_42_ap := ops_rule (c := oa0_42) rfl
def oa0_43 : List IS := [ip 173 (pFaddr 0 (tg 18)),
  il 174 (tg 173) (mLoad1 (tg 173)),
  ip 175 (pBin .neq (tg 174) (cv (.int .i64 0)))]
@[simp] def oa0_43_ap := ops_rule (c := oa0_43) rfl
def oa0_44 : List DA := [⟨CI.pure (pMov (tg 8)), (some 176), none, 0, []⟩,
  ⟨CI.mem 3 (mCall 18 [(tg 176)]), (some 177), none, 1, []⟩,
  ⟨CI.load (tg 18) (mLoadN 6 (tg 18)), (some 178), none, 2, [1]⟩,
  ⟨CI.pure (pEqF true [1, 1, 1, 1, 0, 0] (tg 177) (tg 178)), (some 179), none, 3, []⟩,
  ⟨CI.pure (pMov (tg 179)), (some 180), none, 4, []⟩,
  ⟨CI.pure (pMov (tg 8)), (some 181), (some (180, false)), 5, []⟩,
  ⟨CI.mem 3 (mCall 18 [(tg 181)]), (some 182), (some (180, false)), 6, []⟩,
  ⟨CI.load (tg 18) (mLoadN 6 (tg 18)), (some 183), (some (180, false)), 7, [6]⟩,
  ⟨CI.pure (pEqF true [1, 1, 1, 1, 0, 0] (tg 182) (tg 183)), (some 184), (some (180, false)), 8, []⟩,
  ⟨CI.pure (pPick (tg 180) (cv (.bool true)) (tg 184)), (some 185), none, 9, []⟩,
  ⟨CI.pure (pMov (tg 185)), (some 186), none, 10, []⟩,
  ⟨CI.pure (pMov (tg 8)), (some 187), (some (186, false)), 11, []⟩,
  ⟨CI.load (tg 10) (mLoadN 4 (tg 10)), (some 188), (some (186, false)), 12, []⟩,
  ⟨CI.load (tg 18) (mLoadN 6 (tg 18)), (some 189), (some (186, false)), 13, []⟩,
  ⟨CI.mem 3 (mCall 19 [(tg 187), (tg 188), (tg 189)]), (some 190), (some (186, false)), 14, []⟩,
  ⟨CI.pure (pUn .not (tg 190)), (some 191), (some (186, false)), 15, []⟩,
  ⟨CI.pure (pPick (tg 186) (cv (.bool true)) (tg 191)), (some 192), none, 16, []⟩,
  ⟨CI.pure (pMov (tg 192)), (some 193), none, 17, []⟩,
  ⟨CI.pure (pMov (tg 8)), (some 194), (some (193, false)), 18, []⟩,
  ⟨CI.pure (pMov (tg 17)), (some 195), (some (193, false)), 19, []⟩,
  ⟨CI.pure (pBin .add (tg 195) (cv (.int .u64 9))), (some 196), (some (193, false)), 20, []⟩,
  ⟨CI.mem 3 (mCall 14 [(tg 194), (tg 196)]), (some 197), (some (193, false)), 21, []⟩,
  ⟨CI.pure (pBin .neq (tg 197) (cv (.int .i64 0))), (some 198), (some (193, false)), 22, []⟩,
  ⟨CI.pure (pPick (tg 193) (cv (.bool true)) (tg 198)), (some 199), none, 23, []⟩]
@[simp] def oa0_44_ap := das_rule (c := oa0_44) rfl
def oa0_45 : List IS := [ip 6 (pMov (cv (.bool false)))]
def ca0_41 : SC := sSeq (sReg (seqI oa0_45)) sRet
def ca0_42 : SC := sCond (tg 199) ca0_41 sSkip
@[simp] def ca0_42_ap := cond_rule (c := ca0_42) rfl
def ca0_43 : SC := sSeq (sAny oa0_44) ca0_42
@[simp] def ca0_43_ap := seq_rule (c := ca0_43) rfl
def ca0_44 : SC := sCond (tg 175) ca0_43 sSkip
@[simp] def ca0_44_ap := cond_rule (c := ca0_44) rfl
def ca0_45 : SC := sSeq (sReg (seqI oa0_43)) ca0_44
@[simp] def ca0_45_ap := seq_rule (c := ca0_45) rfl
def ca0_46 : SC := sSeq (sReg (seqI oa0_42)) ca0_45
@[simp] def ca0_46_ap := seq_rule (c := ca0_46) rfl
def ca0_47 : SC := sCond (tg 169) ca0_46 sSkip
@[simp] def ca0_47_ap := cond_rule (c := ca0_47) rfl
def ca0_48 : SC := sSeq (sReg (seqI oa0_41)) ca0_47
@[simp] def ca0_48_ap := seq_rule (c := ca0_48) rfl
def oa0_46 : List IS := [il 200 (tg 10) (mLoadN 4 (tg 10)),
  ip 201 (pMov (tg 17)),
  im 3 202 (mCall 22 [(tg 200), (tg 201)]),
  im0 3 (mStore 4 (tg 10) (tg 202))]
@[simp] def oa0_46_ap := ops_rule (c := oa0_46) rfl
def ca0_49 : SC := sSeq ca0_48 (sReg (seqI oa0_46))
@[simp] def ca0_49_ap := seq_rule (c := ca0_49) rfl
def ca0_50 : SC := sSeq ca0_40 ca0_49
@[simp] def ca0_50_ap := seq_rule (c := ca0_50) rfl
def ca0_51 : SC := sSeq (sReg (seqI oa0_38)) ca0_50
@[simp] def ca0_51_ap := seq_rule (c := ca0_51) rfl
def ca0_52 : SC := sSeq (sReg (seqI oa0_37)) ca0_51
@[simp] def ca0_52_ap := seq_rule (c := ca0_52) rfl
def ca0_53 : SC := sSeq ca0_37 ca0_52
@[simp] def ca0_53_ap := seq_rule (c := ca0_53) rfl
def ca0_54 : SC := sSeq (sReg (seqI oa0_33)) ca0_53
@[simp] def ca0_54_ap := seq_rule (c := ca0_54) rfl
def ca0_55 : SC := sSeq ca0_34 ca0_54
@[simp] def ca0_55_ap := seq_rule (c := ca0_55) rfl
def ca0_56 : SC := sSeq (sReg (seqI oa0_30)) ca0_55
@[simp] def ca0_56_ap := seq_rule (c := ca0_56) rfl
def ca0_57 : SC := sSeq ca0_31 ca0_56
@[simp] def ca0_57_ap := seq_rule (c := ca0_57) rfl
def ca0_58 : SC := sSeq ca0_28 ca0_57
@[simp] def ca0_58_ap := seq_rule (c := ca0_58) rfl
def ca0_59 : SC := sSeq ca0_17 ca0_58
@[simp] def ca0_59_ap := seq_rule (c := ca0_59) rfl
def ca0_60 : SC := sSeq ca0_14 ca0_59
@[simp] def ca0_60_ap := seq_rule (c := ca0_60) rfl
def ca0_61 : SC := sSeq (sReg (seqI oa0_17)) ca0_60
@[simp] def ca0_61_ap := seq_rule (c := ca0_61) rfl
def ca0_62 : SC := sSeq (sReg (seqI oa0_16)) ca0_61
@[simp] def ca0_62_ap := seq_rule (c := ca0_62) rfl
def ca0_63 : SC := sBlock 1 ca0_62
@[simp] def ca0_63_ap := block_rule (c := ca0_63) rfl
def oa0_47 : List IS := [ip 70 (pMov (tg 13)),
  ip 71 (pBin .add (tg 70) (cv (.int .i64 1))),
  ip 13 (pMov (tg 71))]
@[simp] def oa0_47_ap := ops_rule (c := oa0_47) rfl
def ca0_64 : SC := sSeq ca0_63 (sReg (seqI oa0_47))
@[simp] def ca0_64_ap := seq_rule (c := ca0_64) rfl
def ca0_65 : SC := sSeq ca0_11 ca0_64
@[simp] def ca0_65_ap := seq_rule (c := ca0_65) rfl
def ca0_66 : SC := sLoop ca0_65
def ca0_67 : SC := sBlock 0 ca0_66
@[simp] def ca0_67_ap := block_rule (c := ca0_67) rfl
def ca0_68 : SC := sSeq (sReg (seqI oa0_14)) ca0_67
@[simp] def ca0_68_ap := seq_rule (c := ca0_68) rfl
def oa0_48 : List IS := [ip 6 (pMov (cv (.bool true)))]
@[simp] def oa0_48_ap := ops_rule (c := oa0_48) rfl
def ca0_69 : SC := sSeq (sReg (seqI oa0_48)) sRet
@[simp] def ca0_69_ap := seq_rule (c := ca0_69) rfl
def ca0_70 : SC := sSeq ca0_68 ca0_69
@[simp] def ca0_70_ap := seq_rule (c := ca0_70) rfl
def ca0_71 : SC := sSeq (sReg (seqI oa0_13)) ca0_70
@[simp] def ca0_71_ap := seq_rule (c := ca0_71) rfl
def ca0_72 : SC := sSeq (sReg (seqI oa0_12)) ca0_71
@[simp] def ca0_72_ap := seq_rule (c := ca0_72) rfl
def ca0_73 : SC := sSeq (sReg (seqI oa0_11)) ca0_72
@[simp] def ca0_73_ap := seq_rule (c := ca0_73) rfl
def ca0_74 : SC := sSeq (sReg (seqI oa0_10)) ca0_73
@[simp] def ca0_74_ap := seq_rule (c := ca0_74) rfl
def ca0_75 : SC := sSeq ca0_9 ca0_74
@[simp] def ca0_75_ap := seq_rule (c := ca0_75) rfl
def ca0_76 : SC := sSeq ca0_6 ca0_75
@[simp] def ca0_76_ap := seq_rule (c := ca0_76) rfl
def ca0_77 : SC := sSeq (sReg (seqI oa0_5)) ca0_76
@[simp] def ca0_77_ap := seq_rule (c := ca0_77) rfl
def ca0_78 : SC := sSeq (sReg (seqI oa0_4)) ca0_77
@[simp] def ca0_78_ap := seq_rule (c := ca0_78) rfl
def ca0_79 : SC := sSeq ca0_3 ca0_78
@[simp] def ca0_79_ap := seq_rule (c := ca0_79) rfl
def ca0_80 : SC := sSeq (sReg (seqI oa0_1)) ca0_79
@[simp] def ca0_80_ap := seq_rule (c := ca0_80) rfl
def da0 : DFn := ⟨ca0_80, 203, [.t 6]⟩
theorem da0_ok : fnOf Tryz.prog 4 = some da0 := by kernel_rfl
def oa1_1 : List IS := [im 1 1 (mBox (tg 0)),
  im 1 2 (mAlloc [(.int .i64 0), (.slice none 0 0)])]
@[simp] def oa1_1_ap := ops_rule (c := oa1_1) rfl
def oa1_2 : List IS := [ip 8 (pFaddr 0 (tg 1)),
  il 9 (tg 8) (mLoad1 (tg 8)),
  ip 10 (pBuild [(.int .i64 0), (.slice none 0 0)] [(0, 1, (tg 9))]),
  im 1 3 (mAlloc [(.int .i64 0), (.slice none 0 0)]),
  im0 3 (mStore 2 (tg 3) (tg 10))]
@[simp] def oa1_2_ap := ops_rule (c := oa1_2) rfl
def oa1_3 : List IS := [ip 4 (pMov (cv (.int .i64 0)))]
@[simp] def oa1_3_ap := ops_rule (c := oa1_3) rfl
def oa1_4 : List IS := [ip 11 (pMov (tg 4)),
  ip 12 (pFaddr 1 (tg 1)),
  il 13 (tg 12) (mLoad1 (tg 12)),
  ip 14 (pLen (tg 13)),
  ip 15 (pBin .lss (tg 11) (tg 14))]
@[simp] def oa1_4_ap := ops_rule (c := oa1_4) rfl
def ca1_1 : SC := sCond (tg 15) sSkip (sExit 0)
@[simp] def ca1_1_ap := cond_rule (c := ca1_1) rfl
def ca1_2 : SC := sSeq (sReg (seqI oa1_4)) ca1_1
@[simp] def ca1_2_ap := seq_rule (c := ca1_2) rfl
def oa1_5 : List IS := [ip 18 (pFaddr 1 (tg 1)),
  il 19 (tg 18) (mLoad1 (tg 18)),
  ip 20 (pMov (tg 4)),
  ip 21 (pIaddrS 2 (tg 19) (tg 20)),
  ip 22 (pFaddr 0 (tg 21)),
  il 23 (tg 22) (mLoad1 (tg 22)),
  ip 24 (pBuild [(.int .i64 0), (.slice none 0 0)] [(0, 1, (tg 23))]),
  im 1 5 (mAlloc [(.int .i64 0), (.slice none 0 0)]),
  im0 3 (mStore 2 (tg 5) (tg 24))]
@[simp] def oa1_5_ap := ops_rule (c := oa1_5) rfl
def oa1_6 : List IS := [ip 6 (pMov (cv (.int .i64 0)))]
@[simp] def oa1_6_ap := ops_rule (c := oa1_6) rfl
def oa1_7 : List IS := [ip 25 (pMov (tg 6)),
  ip 26 (pFaddr 1 (tg 1)),
  il 27 (tg 26) (mLoad1 (tg 26)),
  ip 28 (pMov (tg 4)),
  ip 29 (pIaddrS 2 (tg 27) (tg 28)),
  ip 30 (pFaddr 1 (tg 29)),
  il 31 (tg 30) (mLoad1 (tg 30)),
  ip 32 (pLen (tg 31)),
  ip 33 (pBin .lss (tg 25) (tg 32))]
@[simp] def oa1_7_ap := ops_rule (c := oa1_7) rfl
def ca1_3 : SC := sCond (tg 33) sSkip (sExit 2)
@[simp] def ca1_3_ap := cond_rule (c := ca1_3) rfl
def ca1_4 : SC := sSeq (sReg (seqI oa1_7)) ca1_3
@[simp] def ca1_4_ap := seq_rule (c := ca1_4) rfl
def oa1_8 : List IS := [ip 36 (pFaddr 1 (tg 1)),
  il 37 (tg 36) (mLoad1 (tg 36)),
  ip 38 (pMov (tg 4)),
  ip 39 (pIaddrS 2 (tg 37) (tg 38)),
  ip 40 (pFaddr 1 (tg 39)),
  il 41 (tg 40) (mLoad1 (tg 40)),
  ip 42 (pMov (tg 6)),
  ip 43 (pIaddrS 11 (tg 41) (tg 42)),
  il 44 (tg 43) (mLoadN 11 (tg 43)),
  im 1 7 (mAlloc [(.int .i64 0), (.int .i64 0), (.int .i64 0), (.int .i64 0), (.slice none 0 0), (.slice none 0 0), (.slice none 0 0), (.int .i64 0), (.int .i64 0), (.int .i64 0), (.int .i64 0)]),
  im0 3 (mStore 11 (tg 7) (tg 44))]
@[simp] def oa1_8_ap := ops_rule (c := oa1_8) rfl
def oa1_9 : List IS := [im 1 45 (mBslice 4 0 (rep 0 [(.int .i64 0), (.int .u64 0), (.int .i64 0), (.int .i64 0)]) []),
  ip 46 (pFaddr 4 (tg 7)),
  il 47 (tg 46) (mLoad1 (tg 46)),
  im 3 48 (mAppend 4 32 (tg 45) (tg 47)),
  ip 49 (pFaddr 4 (tg 7)),
  im0 3 (mStore 1 (tg 49) (tg 48))]
@[simp] def oa1_9_ap := ops_rule (c := oa1_9) rfl
def oa1_10 : List IS := [im 1 50 (mBslice 4 0 (rep 0 [(.int .i64 0), (.int .u64 0), (.int .i64 0), (.int .i64 0)]) []),
  ip 51 (pFaddr 5 (tg 7)),
  il 52 (tg 51) (mLoad1 (tg 51)),
  im 3 53 (mAppend 4 32 (tg 50) (tg 52)),
  ip 54 (pFaddr 5 (tg 7)),
  im0 3 (mStore 1 (tg 54) (tg 53))]
@[simp] def oa1_10_ap := ops_rule (c := oa1_10) rfl
def oa1_11 : List IS := [im 1 55 (mBslice 4 0 (rep 0 [(.int .i64 0), (.int .u64 0), (.int .i64 0), (.int .i64 0)]) []),
  ip 56 (pFaddr 6 (tg 7)),
  il 57 (tg 56) (mLoad1 (tg 56)),
  im 3 58 (mAppend 4 32 (tg 55) (tg 57)),
  ip 59 (pFaddr 6 (tg 7)),
  im0 3 (mStore 1 (tg 59) (tg 58))]
@[simp] def oa1_11_ap := ops_rule (c := oa1_11) rfl
def oa1_12 : List IS := [ip 60 (pFaddr 1 (tg 5)),
  il 61 (tg 60) (mLoad1 (tg 60)),
  il 62 (tg 7) (mLoadN 11 (tg 7)),
  im 1 63 (mBslice 11 1 (rep 1 [(.int .i64 0), (.int .i64 0), (.int .i64 0), (.int .i64 0), (.slice none 0 0), (.slice none 0 0), (.slice none 0 0), (.int .i64 0), (.int .i64 0), (.int .i64 0), (.int .i64 0)]) [(0, 11, (tg 62))]),
  im 3 64 (mAppend 11 136 (tg 61) (tg 63)),
  ip 65 (pFaddr 1 (tg 5)),
  im0 3 (mStore 1 (tg 65) (tg 64))]
@[simp] def oa1_12_ap := ops_rule (c := oa1_12) rfl
def ca1_5 : SC := sSeq (sReg (seqI oa1_11)) (sReg (seqI oa1_12))
@[simp] def ca1_5_ap := seq_rule (c := ca1_5) rfl
def ca1_6 : SC := sSeq (sReg (seqI oa1_10)) ca1_5
@[simp] def ca1_6_ap := seq_rule (c := ca1_6) rfl
def ca1_7 : SC := sSeq (sReg (seqI oa1_9)) ca1_6
@[simp] def ca1_7_ap := seq_rule (c := ca1_7) rfl
def ca1_8 : SC := sSeq (sReg (seqI oa1_8)) ca1_7
@[simp] def ca1_8_ap := seq_rule (c := ca1_8) rfl
def ca1_9 : SC := sBlock 3 ca1_8
@[simp] def ca1_9_ap := block_rule (c := ca1_9) rfl
def oa1_13 : List IS := [ip 34 (pMov (tg 6)),
  ip 35 (pBin .add (tg 34) (cv (.int .i64 1))),
  ip 6 (pMov (tg 35))]
@[simp] def oa1_13_ap := ops_rule (c := oa1_13) rfl
def ca1_10 : SC := sSeq ca1_9 (sReg (seqI oa1_13))
@[simp] def ca1_10_ap := seq_rule (c := ca1_10) rfl
def ca1_11 : SC := sSeq ca1_4 ca1_10
@[simp] def ca1_11_ap := seq_rule (c := ca1_11) rfl
def ca1_12 : SC := sLoop ca1_11
def ca1_13 : SC := sBlock 2 ca1_12
@[simp] def ca1_13_ap := block_rule (c := ca1_13) rfl
def ca1_14 : SC := sSeq (sReg (seqI oa1_6)) ca1_13
@[simp] def ca1_14_ap := seq_rule (c := ca1_14) rfl
def oa1_14 : List IS := [ip 66 (pFaddr 1 (tg 3)),
  il 67 (tg 66) (mLoad1 (tg 66)),
  il 68 (tg 5) (mLoadN 2 (tg 5)),
  im 1 69 (mBslice 2 1 (rep 1 [(.int .i64 0), (.slice none 0 0)]) [(0, 2, (tg 68))]),
  im 3 70 (mAppend 2 32 (tg 67) (tg 69)),
  ip 71 (pFaddr 1 (tg 3)),
  im0 3 (mStore 1 (tg 71) (tg 70))]
@[simp] def oa1_14_ap := ops_rule (c := oa1_14) rfl
def ca1_15 : SC := sSeq ca1_14 (sReg (seqI oa1_14))
@[simp] def ca1_15_ap := seq_rule (c := ca1_15) rfl
def ca1_16 : SC := sSeq (sReg (seqI oa1_5)) ca1_15
@[simp] def ca1_16_ap := seq_rule (c := ca1_16) rfl
def ca1_17 : SC := sBlock 1 ca1_16
@[simp] def ca1_17_ap := block_rule (c := ca1_17) rfl
def oa1_15 : List IS := [ip 16 (pMov (tg 4)),
  ip 17 (pBin .add (tg 16) (cv (.int .i64 1))),
  ip 4 (pMov (tg 17))]
@[simp] def oa1_15_ap := ops_rule (c := oa1_15) rfl
def ca1_18 : SC := sSeq ca1_17 (sReg (seqI oa1_15))
@[simp] def ca1_18_ap := seq_rule (c := ca1_18) rfl
def ca1_19 : SC := sSeq ca1_2 ca1_18
@[simp] def ca1_19_ap := seq_rule (c := ca1_19) rfl
def ca1_20 : SC := sLoop ca1_19
def ca1_21 : SC := sBlock 0 ca1_20
@[simp] def ca1_21_ap := block_rule (c := ca1_21) rfl
def ca1_22 : SC := sSeq (sReg (seqI oa1_3)) ca1_21
@[simp] def ca1_22_ap := seq_rule (c := ca1_22) rfl
def oa1_16 : List IS := [il 72 (tg 3) (mLoadN 2 (tg 3)),
  im0 3 (mStore 2 (tg 2) (tg 72))]
@[simp] def oa1_16_ap := ops_rule (c := oa1_16) rfl
def ca1_23 : SC := sSeq (sReg (seqI oa1_16)) sRet
@[simp] def ca1_23_ap := seq_rule (c := ca1_23) rfl
def ca1_24 : SC := sSeq ca1_22 ca1_23
@[simp] def ca1_24_ap := seq_rule (c := ca1_24) rfl
def ca1_25 : SC := sSeq (sReg (seqI oa1_2)) ca1_24
@[simp] def ca1_25_ap := seq_rule (c := ca1_25) rfl
def ca1_26 : SC := sSeq (sReg (seqI oa1_1)) ca1_25
@[simp] def ca1_26_ap := seq_rule (c := ca1_26) rfl
def da1 : DFn := ⟨ca1_26, 73, [.cell 2 2]⟩
theorem da1_ok : fnOf Tryz.prog 6 = some da1 := by kernel_rfl
def oa4_1 : List IS := [im 1 1 (mBox (tg 0)),
  ip 2 (pMov (cv (.bool false)))]
@[simp] def oa4_1_ap := ops_rule (c := oa4_1) rfl
def oa4_2 : List IS := [ip 6 (pFaddr 0 (tg 1)),
  il 7 (tg 6) (mLoad1 (tg 6)),
  ip 8 (pBin .lss (tg 7) (cv (.int .i64 0))),
  ip 9 (pMov (tg 8)),
  gd 9 false (some 10) (ip 10 (pFaddr 0 (tg 1))),
  gd 9 false (some 11) (il 11 (tg 10) (mLoad1 (tg 10))),
  gd 9 false (some 12) (ip 12 (pBin .gtr (tg 11) (cv (.int .i64 4096)))),
  ip 13 (pPick (tg 9) (cv (.bool true)) (tg 12)),
  ip 14 (pMov (tg 13)),
  gd 14 false (some 15) (ip 15 (pFaddr 1 (tg 1))),
  gd 14 false (some 16) (il 16 (tg 15) (mLoad1 (tg 15))),
  gd 14 false (some 17) (ip 17 (pLen (tg 16))),
  gd 14 false (some 18) (ip 18 (pBin .gtr (tg 17) (cv (.int .i64 64)))),
  ip 19 (pPick (tg 14) (cv (.bool true)) (tg 18))]
@[simp] def oa4_2_ap := ops_rule (c := oa4_2) rfl
def oa4_3 : List IS := [ip 2 (pMov (cv (.bool false)))]
@[simp] def oa4_3_ap := ops_rule (c := oa4_3) rfl
def ca4_1 : SC := sSeq (sReg (seqI oa4_3)) sRet
@[simp] def ca4_1_ap := seq_rule (c := ca4_1) rfl
def ca4_2 : SC := sCond (tg 19) ca4_1 sSkip
@[simp] def ca4_2_ap := cond_rule (c := ca4_2) rfl
def ca4_3 : SC := sSeq (sReg (seqI oa4_2)) ca4_2
@[simp] def ca4_3_ap := seq_rule (c := ca4_3) rfl
def oa4_4 : List IS := [ip 3 (pMov (cv (.int .i64 0)))]
@[simp] def oa4_4_ap := ops_rule (c := oa4_4) rfl
def oa4_5 : List IS := [ip 20 (pMov (tg 3)),
  ip 21 (pFaddr 1 (tg 1)),
  il 22 (tg 21) (mLoad1 (tg 21)),
  ip 23 (pLen (tg 22)),
  ip 24 (pBin .lss (tg 20) (tg 23))]
@[simp] def oa4_5_ap := ops_rule (c := oa4_5) rfl
def ca4_4 : SC := sCond (tg 24) sSkip (sExit 0)
@[simp] def ca4_4_ap := cond_rule (c := ca4_4) rfl
def ca4_5 : SC := sSeq (sReg (seqI oa4_5)) ca4_4
@[simp] def ca4_5_ap := seq_rule (c := ca4_5) rfl
def oa4_6 : List IS := [ip 27 (pFaddr 1 (tg 1)),
  il 28 (tg 27) (mLoad1 (tg 27)),
  ip 29 (pMov (tg 3)),
  ip 30 (pIaddrS 2 (tg 28) (tg 29)),
  il 31 (tg 30) (mLoadN 2 (tg 30)),
  im 1 4 (mAlloc [(.int .i64 0), (.slice none 0 0)]),
  im0 3 (mStore 2 (tg 4) (tg 31))]
@[simp] def oa4_6_ap := ops_rule (c := oa4_6) rfl
def oa4_7 : List IS := [ip 32 (pFaddr 0 (tg 4)),
  il 33 (tg 32) (mLoad1 (tg 32)),
  ip 34 (pBin .lss (tg 33) (cv (.int .i64 0))),
  ip 35 (pMov (tg 34)),
  gd 35 false (some 36) (ip 36 (pFaddr 0 (tg 4))),
  gd 35 false (some 37) (il 37 (tg 36) (mLoad1 (tg 36))),
  gd 35 false (some 38) (ip 38 (pBin .gtr (tg 37) (cv (.int .i64 24)))),
  ip 39 (pPick (tg 35) (cv (.bool true)) (tg 38)),
  ip 40 (pMov (tg 39)),
  gd 40 false (some 41) (ip 41 (pFaddr 1 (tg 4))),
  gd 40 false (some 42) (il 42 (tg 41) (mLoad1 (tg 41))),
  gd 40 false (some 43) (ip 43 (pLen (tg 42))),
  gd 40 false (some 44) (ip 44 (pBin .gtr (tg 43) (cv (.int .i64 65536)))),
  ip 45 (pPick (tg 40) (cv (.bool true)) (tg 44))]
@[simp] def oa4_7_ap := ops_rule (c := oa4_7) rfl
def oa4_8 : List IS := [ip 2 (pMov (cv (.bool false)))]
@[simp] def oa4_8_ap := ops_rule (c := oa4_8) rfl
def ca4_6 : SC := sSeq (sReg (seqI oa4_8)) sRet
@[simp] def ca4_6_ap := seq_rule (c := ca4_6) rfl
def ca4_7 : SC := sCond (tg 45) ca4_6 sSkip
@[simp] def ca4_7_ap := cond_rule (c := ca4_7) rfl
def ca4_8 : SC := sSeq (sReg (seqI oa4_7)) ca4_7
@[simp] def ca4_8_ap := seq_rule (c := ca4_8) rfl
def oa4_9 : List IS := [ip 5 (pMov (cv (.int .i64 0)))]
@[simp] def oa4_9_ap := ops_rule (c := oa4_9) rfl
def oa4_10 : List IS := [ip 46 (pMov (tg 5)),
  ip 47 (pFaddr 1 (tg 4)),
  il 48 (tg 47) (mLoad1 (tg 47)),
  ip 49 (pLen (tg 48)),
  ip 50 (pBin .lss (tg 46) (tg 49))]
@[simp] def oa4_10_ap := ops_rule (c := oa4_10) rfl
def ca4_9 : SC := sCond (tg 50) sSkip (sExit 2)
@[simp] def ca4_9_ap := cond_rule (c := ca4_9) rfl
def ca4_10 : SC := sSeq (sReg (seqI oa4_10)) ca4_9
@[simp] def ca4_10_ap := seq_rule (c := ca4_10) rfl
def oa4_11 : List DA := [⟨CI.pure (pFaddr 1 (tg 4)), (some 53), none, 0, []⟩,
  ⟨CI.load (tg 53) (mLoad1 (tg 53)), (some 54), none, 1, []⟩,
  ⟨CI.pure (pMov (tg 5)), (some 55), none, 2, []⟩,
  ⟨CI.pure (pIaddrS 11 (tg 54) (tg 55)), (some 56), none, 3, []⟩,
  ⟨CI.load (tg 56) (mLoadN 11 (tg 56)), (some 57), none, 4, []⟩,
  ⟨CI.load (tg 1) (mLoadN 2 (tg 1)), (some 58), none, 5, []⟩,
  ⟨CI.load (tg 4) (mLoadN 2 (tg 4)), (some 59), none, 6, []⟩,
  ⟨CI.mem 3 (mCall 37 [(tg 57), (tg 58), (tg 59)]), (some 60), none, 7, []⟩,
  ⟨CI.pure (pUn .not (tg 60)), (some 61), none, 8, []⟩]
@[simp] def oa4_11_ap := das_rule (c := oa4_11) rfl
def oa4_12 : List IS := [ip 2 (pMov (cv (.bool false)))]
@[simp] def oa4_12_ap := ops_rule (c := oa4_12) rfl
def ca4_11 : SC := sSeq (sReg (seqI oa4_12)) sRet
@[simp] def ca4_11_ap := seq_rule (c := ca4_11) rfl
def ca4_12 : SC := sCond (tg 61) ca4_11 sSkip
@[simp] def ca4_12_ap := cond_rule (c := ca4_12) rfl
def ca4_13 : SC := sSeq (sAny oa4_11) ca4_12
@[simp] def ca4_13_ap := seq_rule (c := ca4_13) rfl
def ca4_14 : SC := sBlock 3 ca4_13
@[simp] def ca4_14_ap := block_rule (c := ca4_14) rfl
def oa4_13 : List IS := [ip 51 (pMov (tg 5)),
  ip 52 (pBin .add (tg 51) (cv (.int .i64 1))),
  ip 5 (pMov (tg 52))]
@[simp] def oa4_13_ap := ops_rule (c := oa4_13) rfl
def ca4_15 : SC := sSeq ca4_14 (sReg (seqI oa4_13))
@[simp] def ca4_15_ap := seq_rule (c := ca4_15) rfl
def ca4_16 : SC := sSeq ca4_10 ca4_15
@[simp] def ca4_16_ap := seq_rule (c := ca4_16) rfl
def ca4_17 : SC := sLoop ca4_16
def ca4_18 : SC := sBlock 2 ca4_17
@[simp] def ca4_18_ap := block_rule (c := ca4_18) rfl
def ca4_19 : SC := sSeq (sReg (seqI oa4_9)) ca4_18
@[simp] def ca4_19_ap := seq_rule (c := ca4_19) rfl
def ca4_20 : SC := sSeq ca4_8 ca4_19
@[simp] def ca4_20_ap := seq_rule (c := ca4_20) rfl
def ca4_21 : SC := sSeq (sReg (seqI oa4_6)) ca4_20
@[simp] def ca4_21_ap := seq_rule (c := ca4_21) rfl
def ca4_22 : SC := sBlock 1 ca4_21
@[simp] def ca4_22_ap := block_rule (c := ca4_22) rfl
def oa4_14 : List IS := [ip 25 (pMov (tg 3)),
  ip 26 (pBin .add (tg 25) (cv (.int .i64 1))),
  ip 3 (pMov (tg 26))]
@[simp] def oa4_14_ap := ops_rule (c := oa4_14) rfl
def ca4_23 : SC := sSeq ca4_22 (sReg (seqI oa4_14))
@[simp] def ca4_23_ap := seq_rule (c := ca4_23) rfl
def ca4_24 : SC := sSeq ca4_5 ca4_23
@[simp] def ca4_24_ap := seq_rule (c := ca4_24) rfl
def ca4_25 : SC := sLoop ca4_24
def ca4_26 : SC := sBlock 0 ca4_25
@[simp] def ca4_26_ap := block_rule (c := ca4_26) rfl
def ca4_27 : SC := sSeq (sReg (seqI oa4_4)) ca4_26
@[simp] def ca4_27_ap := seq_rule (c := ca4_27) rfl
def oa4_15 : List IS := [ip 2 (pMov (cv (.bool true)))]
@[simp] def oa4_15_ap := ops_rule (c := oa4_15) rfl
def ca4_28 : SC := sSeq (sReg (seqI oa4_15)) sRet
@[simp] def ca4_28_ap := seq_rule (c := ca4_28) rfl
def ca4_29 : SC := sSeq ca4_27 ca4_28
@[simp] def ca4_29_ap := seq_rule (c := ca4_29) rfl
def ca4_30 : SC := sSeq ca4_3 ca4_29
@[simp] def ca4_30_ap := seq_rule (c := ca4_30) rfl
def ca4_31 : SC := sSeq (sReg (seqI oa4_1)) ca4_30
@[simp] def ca4_31_ap := seq_rule (c := ca4_31) rfl
def da4 : DFn := ⟨ca4_31, 62, [.t 2]⟩
theorem da4_ok : fnOf Tryz.prog 13 = some da4 := by kernel_rfl
def oa6_1 : List IS := [im 1 1 (mBox (tg 0))]
@[simp] def oa6_1_ap := ops_rule (c := oa6_1) rfl
def oa6_2 : List IS := [ip 2 (pMov (cv (.int .i64 0)))]
@[simp] def oa6_2_ap := ops_rule (c := oa6_2) rfl
def oa6_3 : List IS := [ip 8 (pMov (tg 2)),
  ip 9 (pFaddr 1 (tg 1)),
  il 10 (tg 9) (mLoad1 (tg 9)),
  ip 11 (pLen (tg 10)),
  ip 12 (pBin .lss (tg 8) (tg 11))]
@[simp] def oa6_3_ap := ops_rule (c := oa6_3) rfl
def ca6_1 : SC := sCond (tg 12) sSkip (sExit 0)
@[simp] def ca6_1_ap := cond_rule (c := ca6_1) rfl
def ca6_2 : SC := sSeq (sReg (seqI oa6_3)) ca6_1
@[simp] def ca6_2_ap := seq_rule (c := ca6_2) rfl
def oa6_4 : List IS := [ip 3 (pMov (cv (.int .i64 0)))]
@[simp] def oa6_4_ap := ops_rule (c := oa6_4) rfl
def oa6_5 : List IS := [ip 15 (pMov (tg 3)),
  ip 16 (pFaddr 1 (tg 1)),
  il 17 (tg 16) (mLoad1 (tg 16)),
  ip 18 (pMov (tg 2)),
  ip 19 (pIaddrS 2 (tg 17) (tg 18)),
  ip 20 (pFaddr 1 (tg 19)),
  il 21 (tg 20) (mLoad1 (tg 20)),
  ip 22 (pLen (tg 21)),
  ip 23 (pBin .lss (tg 15) (tg 22))]
@[simp] def oa6_5_ap := ops_rule (c := oa6_5) rfl
def ca6_3 : SC := sCond (tg 23) sSkip (sExit 2)
@[simp] def ca6_3_ap := cond_rule (c := ca6_3) rfl
def ca6_4 : SC := sSeq (sReg (seqI oa6_5)) ca6_3
@[simp] def ca6_4_ap := seq_rule (c := ca6_4) rfl
def oa6_6 : List IS := [ip 26 (pFaddr 1 (tg 1)),
  il 27 (tg 26) (mLoad1 (tg 26)),
  ip 28 (pMov (tg 2)),
  ip 29 (pIaddrS 2 (tg 27) (tg 28)),
  ip 30 (pFaddr 1 (tg 29)),
  il 31 (tg 30) (mLoad1 (tg 30)),
  ip 32 (pMov (tg 3)),
  ip 33 (pIaddrS 11 (tg 31) (tg 32)),
  il 34 (tg 33) (mLoadN 11 (tg 33)),
  im 1 4 (mAlloc [(.int .i64 0), (.int .i64 0), (.int .i64 0), (.int .i64 0), (.slice none 0 0), (.slice none 0 0), (.slice none 0 0), (.int .i64 0), (.int .i64 0), (.int .i64 0), (.int .i64 0)]),
  im0 3 (mStore 11 (tg 4) (tg 34))]
@[simp] def oa6_6_ap := ops_rule (c := oa6_6) rfl
def oa6_7 : List IS := [ip 5 (pMov (cv (.int .i64 0)))]
@[simp] def oa6_7_ap := ops_rule (c := oa6_7) rfl
def oa6_8 : List IS := [ip 35 (pMov (tg 5)),
  ip 36 (pFaddr 5 (tg 4)),
  il 37 (tg 36) (mLoad1 (tg 36)),
  ip 38 (pLen (tg 37)),
  ip 39 (pBin .lss (tg 35) (tg 38))]
@[simp] def oa6_8_ap := ops_rule (c := oa6_8) rfl
def ca6_5 : SC := sCond (tg 39) sSkip (sExit 4)
@[simp] def ca6_5_ap := cond_rule (c := ca6_5) rfl
def ca6_6 : SC := sSeq (sReg (seqI oa6_8)) ca6_5
@[simp] def ca6_6_ap := seq_rule (c := ca6_6) rfl
def oa6_9 : List IS := [ip 42 (pFaddr 5 (tg 4)),
  il 43 (tg 42) (mLoad1 (tg 42)),
  ip 44 (pMov (tg 5)),
  ip 45 (pBuild [(.int .i64 0), (.int .u64 0), (.int .i64 0), (.int .i64 0)] [(0, 1, (cv (.int .i64 99)))]),
  ip 46 (pIaddrS 4 (tg 43) (tg 44)),
  im0 3 (mStore 4 (tg 46) (tg 45))]
@[simp] def oa6_9_ap := ops_rule (c := oa6_9) rfl
def ca6_7 : SC := sBlock 5 (sReg (seqI oa6_9))
@[simp] def ca6_7_ap := block_rule (c := ca6_7) rfl
def oa6_10 : List IS := [ip 40 (pMov (tg 5)),
  ip 41 (pBin .add (tg 40) (cv (.int .i64 1))),
  ip 5 (pMov (tg 41))]
@[simp] def oa6_10_ap := ops_rule (c := oa6_10) rfl
def ca6_8 : SC := sSeq ca6_7 (sReg (seqI oa6_10))
@[simp] def ca6_8_ap := seq_rule (c := ca6_8) rfl
def ca6_9 : SC := sSeq ca6_6 ca6_8
@[simp] def ca6_9_ap := seq_rule (c := ca6_9) rfl
def ca6_10 : SC := sLoop ca6_9
def ca6_11 : SC := sBlock 4 ca6_10
@[simp] def ca6_11_ap := block_rule (c := ca6_11) rfl
def ca6_12 : SC := sSeq (sReg (seqI oa6_7)) ca6_11
@[simp] def ca6_12_ap := seq_rule (c := ca6_12) rfl
def oa6_11 : List IS := [ip 6 (pMov (cv (.int .i64 0)))]
@[simp] def oa6_11_ap := ops_rule (c := oa6_11) rfl
def oa6_12 : List IS := [ip 47 (pMov (tg 6)),
  ip 48 (pFaddr 6 (tg 4)),
  il 49 (tg 48) (mLoad1 (tg 48)),
  ip 50 (pLen (tg 49)),
  ip 51 (pBin .lss (tg 47) (tg 50))]
@[simp] def oa6_12_ap := ops_rule (c := oa6_12) rfl
def ca6_13 : SC := sCond (tg 51) sSkip (sExit 6)
@[simp] def ca6_13_ap := cond_rule (c := ca6_13) rfl
def ca6_14 : SC := sSeq (sReg (seqI oa6_12)) ca6_13
@[simp] def ca6_14_ap := seq_rule (c := ca6_14) rfl
def oa6_13 : List IS := [ip 54 (pFaddr 6 (tg 4)),
  il 55 (tg 54) (mLoad1 (tg 54)),
  ip 56 (pMov (tg 6)),
  ip 57 (pBuild [(.int .i64 0), (.int .u64 0), (.int .i64 0), (.int .i64 0)] [(0, 1, (cv (.int .i64 99)))]),
  ip 58 (pIaddrS 4 (tg 55) (tg 56)),
  im0 3 (mStore 4 (tg 58) (tg 57))]
@[simp] def oa6_13_ap := ops_rule (c := oa6_13) rfl
def ca6_15 : SC := sBlock 7 (sReg (seqI oa6_13))
@[simp] def ca6_15_ap := block_rule (c := ca6_15) rfl
def oa6_14 : List IS := [ip 52 (pMov (tg 6)),
  ip 53 (pBin .add (tg 52) (cv (.int .i64 1))),
  ip 6 (pMov (tg 53))]
@[simp] def oa6_14_ap := ops_rule (c := oa6_14) rfl
def ca6_16 : SC := sSeq ca6_15 (sReg (seqI oa6_14))
@[simp] def ca6_16_ap := seq_rule (c := ca6_16) rfl
def ca6_17 : SC := sSeq ca6_14 ca6_16
@[simp] def ca6_17_ap := seq_rule (c := ca6_17) rfl
def ca6_18 : SC := sLoop ca6_17
def ca6_19 : SC := sBlock 6 ca6_18
@[simp] def ca6_19_ap := block_rule (c := ca6_19) rfl
def ca6_20 : SC := sSeq (sReg (seqI oa6_11)) ca6_19
@[simp] def ca6_20_ap := seq_rule (c := ca6_20) rfl
def oa6_15 : List IS := [ip 7 (pMov (cv (.int .i64 0)))]
@[simp] def oa6_15_ap := ops_rule (c := oa6_15) rfl
def oa6_16 : List IS := [ip 59 (pMov (tg 7)),
  ip 60 (pFaddr 4 (tg 4)),
  il 61 (tg 60) (mLoad1 (tg 60)),
  ip 62 (pLen (tg 61)),
  ip 63 (pBin .lss (tg 59) (tg 62))]
@[simp] def oa6_16_ap := ops_rule (c := oa6_16) rfl
def ca6_21 : SC := sCond (tg 63) sSkip (sExit 8)
@[simp] def ca6_21_ap := cond_rule (c := ca6_21) rfl
def ca6_22 : SC := sSeq (sReg (seqI oa6_16)) ca6_21
@[simp] def ca6_22_ap := seq_rule (c := ca6_22) rfl
def oa6_17 : List IS := [ip 66 (pFaddr 4 (tg 4)),
  il 67 (tg 66) (mLoad1 (tg 66)),
  ip 68 (pMov (tg 7)),
  ip 69 (pBuild [(.int .i64 0), (.int .u64 0), (.int .i64 0), (.int .i64 0)] [(0, 1, (cv (.int .i64 99)))]),
  ip 70 (pIaddrS 4 (tg 67) (tg 68)),
  im0 3 (mStore 4 (tg 70) (tg 69))]
@[simp] def oa6_17_ap := ops_rule (c := oa6_17) rfl
def ca6_23 : SC := sBlock 9 (sReg (seqI oa6_17))
@[simp] def ca6_23_ap := block_rule (c := ca6_23) rfl
def oa6_18 : List IS := [ip 64 (pMov (tg 7)),
  ip 65 (pBin .add (tg 64) (cv (.int .i64 1))),
  ip 7 (pMov (tg 65))]
@[simp] def oa6_18_ap := ops_rule (c := oa6_18) rfl
def ca6_24 : SC := sSeq ca6_23 (sReg (seqI oa6_18))
@[simp] def ca6_24_ap := seq_rule (c := ca6_24) rfl
def ca6_25 : SC := sSeq ca6_22 ca6_24
@[simp] def ca6_25_ap := seq_rule (c := ca6_25) rfl
def ca6_26 : SC := sLoop ca6_25
def ca6_27 : SC := sBlock 8 ca6_26
@[simp] def ca6_27_ap := block_rule (c := ca6_27) rfl
def ca6_28 : SC := sSeq (sReg (seqI oa6_15)) ca6_27
@[simp] def ca6_28_ap := seq_rule (c := ca6_28) rfl
def oa6_19 : List IS := [ip 71 (pFaddr 1 (tg 1)),
  il 72 (tg 71) (mLoad1 (tg 71)),
  ip 73 (pMov (tg 2)),
  ip 74 (pIaddrS 2 (tg 72) (tg 73)),
  ip 75 (pFaddr 1 (tg 74)),
  il 76 (tg 75) (mLoad1 (tg 75)),
  ip 77 (pMov (tg 3)),
  ip 78 (pBuild [(.int .i64 0), (.int .i64 0), (.int .i64 0), (.int .i64 0), (.slice none 0 0), (.slice none 0 0), (.slice none 0 0), (.int .i64 0), (.int .i64 0), (.int .i64 0), (.int .i64 0)] [(0, 1, (cv (.int .i64 99)))]),
  ip 79 (pIaddrS 11 (tg 76) (tg 77)),
  im0 3 (mStore 11 (tg 79) (tg 78))]
@[simp] def oa6_19_ap := ops_rule (c := oa6_19) rfl
def ca6_29 : SC := sSeq ca6_28 (sReg (seqI oa6_19))
@[simp] def ca6_29_ap := seq_rule (c := ca6_29) rfl
def ca6_30 : SC := sSeq ca6_20 ca6_29
@[simp] def ca6_30_ap := seq_rule (c := ca6_30) rfl
def ca6_31 : SC := sSeq ca6_12 ca6_30
@[simp] def ca6_31_ap := seq_rule (c := ca6_31) rfl
def ca6_32 : SC := sSeq (sReg (seqI oa6_6)) ca6_31
@[simp] def ca6_32_ap := seq_rule (c := ca6_32) rfl
def ca6_33 : SC := sBlock 3 ca6_32
@[simp] def ca6_33_ap := block_rule (c := ca6_33) rfl
def oa6_20 : List IS := [ip 24 (pMov (tg 3)),
  ip 25 (pBin .add (tg 24) (cv (.int .i64 1))),
  ip 3 (pMov (tg 25))]
@[simp] def oa6_20_ap := ops_rule (c := oa6_20) rfl
def ca6_34 : SC := sSeq ca6_33 (sReg (seqI oa6_20))
@[simp] def ca6_34_ap := seq_rule (c := ca6_34) rfl
def ca6_35 : SC := sSeq ca6_4 ca6_34
@[simp] def ca6_35_ap := seq_rule (c := ca6_35) rfl
def ca6_36 : SC := sLoop ca6_35
def ca6_37 : SC := sBlock 2 ca6_36
@[simp] def ca6_37_ap := block_rule (c := ca6_37) rfl
def ca6_38 : SC := sSeq (sReg (seqI oa6_4)) ca6_37
@[simp] def ca6_38_ap := seq_rule (c := ca6_38) rfl
def oa6_21 : List IS := [ip 80 (pFaddr 1 (tg 1)),
  il 81 (tg 80) (mLoad1 (tg 80)),
  ip 82 (pMov (tg 2)),
  ip 83 (pBuild [(.int .i64 0), (.slice none 0 0)] [(0, 1, (cv (.int .i64 99)))]),
  ip 84 (pIaddrS 2 (tg 81) (tg 82)),
  im0 3 (mStore 2 (tg 84) (tg 83))]
@[simp] def oa6_21_ap := ops_rule (c := oa6_21) rfl
def ca6_39 : SC := sSeq ca6_38 (sReg (seqI oa6_21))
@[simp] def ca6_39_ap := seq_rule (c := ca6_39) rfl
def ca6_40 : SC := sBlock 1 ca6_39
@[simp] def ca6_40_ap := block_rule (c := ca6_40) rfl
def oa6_22 : List IS := [ip 13 (pMov (tg 2)),
  ip 14 (pBin .add (tg 13) (cv (.int .i64 1))),
  ip 2 (pMov (tg 14))]
@[simp] def oa6_22_ap := ops_rule (c := oa6_22) rfl
def ca6_41 : SC := sSeq ca6_40 (sReg (seqI oa6_22))
@[simp] def ca6_41_ap := seq_rule (c := ca6_41) rfl
def ca6_42 : SC := sSeq ca6_2 ca6_41
@[simp] def ca6_42_ap := seq_rule (c := ca6_42) rfl
def ca6_43 : SC := sLoop ca6_42
def ca6_44 : SC := sBlock 0 ca6_43
@[simp] def ca6_44_ap := block_rule (c := ca6_44) rfl
def ca6_45 : SC := sSeq (sReg (seqI oa6_2)) ca6_44
@[simp] def ca6_45_ap := seq_rule (c := ca6_45) rfl
def ca6_46 : SC := sSeq (sReg (seqI oa6_1)) ca6_45
@[simp] def ca6_46_ap := seq_rule (c := ca6_46) rfl
def da6 : DFn := ⟨ca6_46, 85, []⟩
theorem da6_ok : fnOf Tryz.prog 15 = some da6 := by kernel_rfl
def oa7_1 : List IS := [im 1 1 (mBox (tg 0)),
  im 1 2 (mAlloc [(.int .i64 0), (.slice none 0 0), (.int .i64 0), (.slice none 0 0)])]
@[simp] def oa7_1_ap := ops_rule (c := oa7_1) rfl
def oa7_2 : List DA := [⟨CI.load (tg 1) (mLoadN 2 (tg 1)), (some 3), none, 0, []⟩,
  ⟨CI.pure (pFaddr 0 (tg 1)), (some 4), none, 1, []⟩,
  ⟨CI.load (tg 4) (mLoad1 (tg 4)), (some 5), none, 2, []⟩,
  ⟨CI.mem 1 (mMkslice 1 8 [(.int .u64 0)] (tg 5) (tg 5)), (some 6), none, 3, []⟩,
  ⟨CI.pure (pBuild [(.int .i64 0), (.slice none 0 0), (.int .i64 0), (.slice none 0 0)] [(0, 2, (tg 3)), (2, 1, (cv (.int .i64 0))), (3, 1, (tg 6))]), (some 7), none, 4, []⟩,
  ⟨CI.mem 3 (mStore 4 (tg 2) (tg 7)), none, none, 5, []⟩]
@[simp] def oa7_2_ap := das_rule (c := oa7_2) rfl
def ca7_1 : SC := sSeq (sAny oa7_2) sRet
@[simp] def ca7_1_ap := seq_rule (c := ca7_1) rfl
def ca7_2 : SC := sSeq (sReg (seqI oa7_1)) ca7_1
@[simp] def ca7_2_ap := seq_rule (c := ca7_2) rfl
def da7 : DFn := ⟨ca7_2, 8, [.cell 2 4]⟩
theorem da7_ok : fnOf Tryz.prog 16 = some da7 := by kernel_rfl
def oa8_1 : List IS := [im 1 1 (mBox (tg 0)),
  im 1 2 (mAlloc [(.int .i64 0), (.slice none 0 0), (.int .i64 0), (.slice none 0 0)]),
  im 1 3 (mAlloc [(.int .i64 0), (.int .i64 0), (.int .i64 0), (.int .u64 0), (.bool false), (.bool false)])]
@[simp] def oa8_1_ap := ops_rule (c := oa8_1) rfl
def oa8_2 : List IS := [ip 4 (pMov (cv (.int .i64 0)))]
@[simp] def oa8_2_ap := ops_rule (c := oa8_2) rfl
def oa8_3 : List IS := [ip 7 (pFaddr 2 (tg 1)),
  il 8 (tg 7) (mLoad1 (tg 7)),
  ip 9 (pFaddr 0 (tg 1)),
  ip 10 (pFaddr 1 (tg 9)),
  il 11 (tg 10) (mLoad1 (tg 10)),
  ip 12 (pLen (tg 11)),
  ip 13 (pBin .eql (tg 8) (tg 12))]
@[simp] def oa8_3_ap := ops_rule (c := oa8_3) rfl
def oa8_4 : List IS := [il 14 (tg 1) (mLoadN 4 (tg 1)),
  ip 15 (pBuild [(.int .i64 0), (.int .i64 0), (.int .i64 0), (.int .u64 0), (.bool false), (.bool false)] [(0, 1, (cv (.int .i64 5)))]),
  im0 3 (mStore 4 (tg 2) (tg 14)),
  im0 3 (mStore 6 (tg 3) (tg 15))]
@[simp] def oa8_4_ap := ops_rule (c := oa8_4) rfl
def ca8_1 : SC := sSeq (sReg (seqI oa8_4)) sRet
@[simp] def ca8_1_ap := seq_rule (c := ca8_1) rfl
def ca8_2 : SC := sCond (tg 13) ca8_1 sSkip
@[simp] def ca8_2_ap := cond_rule (c := ca8_2) rfl
def ca8_3 : SC := sSeq (sReg (seqI oa8_3)) ca8_2
@[simp] def ca8_3_ap := seq_rule (c := ca8_3) rfl
def oa8_5 : List IS := [il 16 (tg 1) (mLoadN 4 (tg 1)),
  im 3 17 (mCall 23 [(tg 16)]),
  ip 18 (pUn .not (tg 17))]
@[simp] def oa8_5_ap := ops_rule (c := oa8_5) rfl
def oa8_6 : List DA := [⟨CI.load (tg 1) (mLoadN 4 (tg 1)), (some 19), none, 0, []⟩,
  ⟨CI.load (tg 1) (mLoadN 4 (tg 1)), (some 20), none, 1, []⟩,
  ⟨CI.mem 3 (mCall 25 [(tg 20)]), (some 21), none, 2, [0]⟩,
  ⟨CI.mem 3 (mStore 4 (tg 2) (tg 19)), none, none, 3, []⟩,
  ⟨CI.mem 3 (mStore 6 (tg 3) (tg 21)), none, none, 4, []⟩]
@[simp] def oa8_6_ap := das_rule (c := oa8_6) rfl
def ca8_4 : SC := sSeq (sAny oa8_6) sRet
@[simp] def ca8_4_ap := seq_rule (c := ca8_4) rfl
def ca8_5 : SC := sCond (tg 18) ca8_4 sSkip
@[simp] def ca8_5_ap := cond_rule (c := ca8_5) rfl
def ca8_6 : SC := sSeq (sReg (seqI oa8_5)) ca8_5
@[simp] def ca8_6_ap := seq_rule (c := ca8_6) rfl
def oa8_7 : List IS := [ip 22 (pMov (tg 4)),
  ip 23 (pBin .eql (tg 22) (cv (.int .i64 100000)))]
@[simp] def oa8_7_ap := ops_rule (c := oa8_7) rfl
def oa8_8 : List IS := [il 24 (tg 1) (mLoadN 4 (tg 1)),
  ip 25 (pBuild [(.int .i64 0), (.int .i64 0), (.int .i64 0), (.int .u64 0), (.bool false), (.bool false)] [(0, 1, (cv (.int .i64 6)))]),
  im0 3 (mStore 4 (tg 2) (tg 24)),
  im0 3 (mStore 6 (tg 3) (tg 25))]
@[simp] def oa8_8_ap := ops_rule (c := oa8_8) rfl
def ca8_7 : SC := sSeq (sReg (seqI oa8_8)) sRet
@[simp] def ca8_7_ap := seq_rule (c := ca8_7) rfl
def ca8_8 : SC := sCond (tg 23) ca8_7 sSkip
@[simp] def ca8_8_ap := cond_rule (c := ca8_8) rfl
def ca8_9 : SC := sSeq (sReg (seqI oa8_7)) ca8_8
@[simp] def ca8_9_ap := seq_rule (c := ca8_9) rfl
def oa8_9 : List IS := [il 26 (tg 1) (mLoadN 4 (tg 1)),
  im 3 27 (mCall 24 [(tg 26)]),
  im0 3 (mStore 4 (tg 1) (tg 27))]
@[simp] def oa8_9_ap := ops_rule (c := oa8_9) rfl
def ca8_10 : SC := sSeq ca8_9 (sReg (seqI oa8_9))
@[simp] def ca8_10_ap := seq_rule (c := ca8_10) rfl
def ca8_11 : SC := sSeq ca8_6 ca8_10
@[simp] def ca8_11_ap := seq_rule (c := ca8_11) rfl
def ca8_12 : SC := sSeq ca8_3 ca8_11
@[simp] def ca8_12_ap := seq_rule (c := ca8_12) rfl
def ca8_13 : SC := sBlock 1 ca8_12
@[simp] def ca8_13_ap := block_rule (c := ca8_13) rfl
def oa8_10 : List IS := [ip 5 (pMov (tg 4)),
  ip 6 (pBin .add (tg 5) (cv (.int .i64 1))),
  ip 4 (pMov (tg 6))]
@[simp] def oa8_10_ap := ops_rule (c := oa8_10) rfl
def ca8_14 : SC := sSeq ca8_13 (sReg (seqI oa8_10))
@[simp] def ca8_14_ap := seq_rule (c := ca8_14) rfl
def ca8_15 : SC := sLoop ca8_14
def ca8_16 : SC := sBlock 0 ca8_15
@[simp] def ca8_16_ap := block_rule (c := ca8_16) rfl
def ca8_17 : SC := sSeq (sReg (seqI oa8_2)) ca8_16
@[simp] def ca8_17_ap := seq_rule (c := ca8_17) rfl
def ca8_18 : SC := sSeq (sReg (seqI oa8_1)) ca8_17
@[simp] def ca8_18_ap := seq_rule (c := ca8_18) rfl
def da8 : DFn := ⟨ca8_18, 28, [.cell 2 4, .cell 3 6]⟩
theorem da8_ok : fnOf Tryz.prog 17 = some da8 := by kernel_rfl
def ob0_1 : List IS := [im 1 4 (mBox (tg 1)),
  im 1 5 (mBox (tg 2)),
  ip 6 (pMov (cv (.bool false)))]
@[simp] def ob0_1_ap := ops_rule (c := ob0_1) rfl
def ob0_2 : List IS := [ip 9 (pMov (tg 0)),
  im 3 10 (mCall 39 [(tg 9)]),
  ip 7 (pMov (tg 10))]
@[simp] def ob0_2_ap := ops_rule (c := ob0_2) rfl
def ob0_3 : List IS := [ip 11 (pMov (tg 7)),
  ip 12 (pFaddr 3 (tg 4)),
  il 13 (tg 12) (mLoad1 (tg 12)),
  im 3 14 (mCall 10 [(tg 11), (tg 13)]),
  ip 15 (pUn .not (tg 14))]
@[simp] def ob0_3_ap := ops_rule (c := ob0_3) rfl
def ob0_4 : List IS := [ip 6 (pMov (cv (.bool false)))]
def cb0_1 : SC := sSeq (sReg (seqI ob0_4)) sRet
def cb0_2 : SC := sCond (tg 15) cb0_1 sSkip
@[simp] def cb0_2_ap := cond_rule (c := cb0_2) rfl
def cb0_3 : SC := sSeq (sReg (seqI ob0_3)) cb0_2
@[simp] def cb0_3_ap := seq_rule (c := cb0_3) rfl
def ob0_5 : List IS := [ip 8 (pMov (cv (.int .i64 0)))]
@[simp] def ob0_5_ap := ops_rule (c := ob0_5) rfl
def ob0_6 : List IS := [ip 16 (pMov (tg 8)),
  ip 17 (pMov (tg 7)),
  ip 18 (pLen (tg 17)),
  ip 19 (pBin .lss (tg 16) (tg 18))]
@[simp] def ob0_6_ap := ops_rule (c := ob0_6) rfl
def cb0_4 : SC := sCond (tg 19) sSkip (sExit 0)
@[simp] def cb0_4_ap := cond_rule (c := cb0_4) rfl
def cb0_5 : SC := sSeq (sReg (seqI ob0_6)) cb0_4
@[simp] def cb0_5_ap := seq_rule (c := cb0_5) rfl
def ob0_7 : List IS := [ip 22 (pMov (tg 7)),
  ip 23 (pMov (tg 8)),
  ip 24 (pIaddrS 1 (tg 22) (tg 23)),
  im0 3 (mStore 1 (tg 24) (cv (.int .u64 99)))]
@[simp] def ob0_7_ap := ops_rule (c := ob0_7) rfl
def cb0_6 : SC := sBlock 1 (sReg (seqI ob0_7))
@[simp] def cb0_6_ap := block_rule (c := cb0_6) rfl
def ob0_8 : List IS := [ip 20 (pMov (tg 8)),
  ip 21 (pBin .add (tg 20) (cv (.int .i64 1))),
  ip 8 (pMov (tg 21))]
@[simp] def ob0_8_ap := ops_rule (c := ob0_8) rfl
def cb0_7 : SC := sSeq cb0_6 (sReg (seqI ob0_8))
@[simp] def cb0_7_ap := seq_rule (c := cb0_7) rfl
def cb0_8 : SC := sSeq cb0_5 cb0_7
@[simp] def cb0_8_ap := seq_rule (c := cb0_8) rfl
def cb0_9 : SC := sLoop cb0_8
def cb0_10 : SC := sBlock 0 cb0_9
@[simp] def cb0_10_ap := block_rule (c := cb0_10) rfl
def cb0_11 : SC := sSeq (sReg (seqI ob0_5)) cb0_10
@[simp] def cb0_11_ap := seq_rule (c := cb0_11) rfl
def ob0_9 : List DA := [⟨CI.pure (pMov (tg 0)), (some 25), none, 0, []⟩,
  ⟨CI.mem 3 (mCall 18 [(tg 25)]), (some 26), none, 1, []⟩,
  ⟨CI.load (tg 5) (mLoadN 6 (tg 5)), (some 27), none, 2, [1]⟩,
  ⟨CI.pure (pEqF false [1, 1, 1, 1, 0, 0] (tg 26) (tg 27)), (some 28), none, 3, []⟩,
  ⟨CI.pure (pMov (tg 28)), (some 6), none, 4, []⟩]
@[simp] def ob0_9_ap := das_rule (c := ob0_9) rfl
def cb0_12 : SC := sSeq (sAny ob0_9) sRet
@[simp] def cb0_12_ap := seq_rule (c := cb0_12) rfl
def cb0_13 : SC := sSeq cb0_11 cb0_12
@[simp] def cb0_13_ap := seq_rule (c := cb0_13) rfl
def cb0_14 : SC := sSeq cb0_3 cb0_13
@[simp] def cb0_14_ap := seq_rule (c := cb0_14) rfl
def cb0_15 : SC := sSeq (sReg (seqI ob0_2)) cb0_14
@[simp] def cb0_15_ap := seq_rule (c := cb0_15) rfl
def cb0_16 : SC := sSeq (sReg (seqI ob0_1)) cb0_15
@[simp] def cb0_16_ap := seq_rule (c := cb0_16) rfl
def db0 : DFn := ⟨cb0_16, 29, [.t 6]⟩
theorem db0_ok : fnOf Tryz.prog 19 = some db0 := by kernel_rfl
def ob2_1 : List IS := [im 1 2 (mBox (tg 0)),
  im 1 4 (mAlloc [(.int .i64 0), (.int .i64 0), (.int .i64 0), (.int .u64 0), (.bool false), (.bool false)])]
@[simp] def ob2_1_ap := ops_rule (c := ob2_1) rfl
def ob2_2 : List IS := [ip 9 (pFaddr 0 (tg 2)),
  ip 10 (pFaddr 1 (tg 9)),
  il 11 (tg 10) (mLoad1 (tg 10)),
  ip 12 (pFaddr 2 (tg 2)),
  il 13 (tg 12) (mLoad1 (tg 12)),
  ip 14 (pIaddrS 11 (tg 11) (tg 13)),
  il 15 (tg 14) (mLoadN 11 (tg 14)),
  im 1 5 (mAlloc [(.int .i64 0), (.int .i64 0), (.int .i64 0), (.int .i64 0), (.slice none 0 0), (.slice none 0 0), (.slice none 0 0), (.int .i64 0), (.int .i64 0), (.int .i64 0), (.int .i64 0)]),
  im0 3 (mStore 11 (tg 5) (tg 15))]
@[simp] def ob2_2_ap := ops_rule (c := ob2_2) rfl
def ob2_3 : List IS := [ip 17 (pFaddr 7 (tg 5)),
  il 18 (tg 17) (mLoad1 (tg 17)),
  im 3 19 (mCall 41 [(tg 18)]),
  ip 16 (pMov (tg 19)),
  ip 20 (pExtract (tg 16) 0),
  ip 21 (pExtract (tg 16) 1),
  ip 6 (pMov (tg 20)),
  ip 7 (pMov (tg 21))]
@[simp] def ob2_3_ap := ops_rule (c := ob2_3) rfl
def ob2_4 : List DA := [⟨CI.load (tg 5) (mLoadN 11 (tg 5)), (some 22), none, 0, []⟩,
  ⟨CI.pure (pFaddr 3 (tg 2)), (some 23), none, 1, []⟩,
  ⟨CI.load (tg 23) (mLoad1 (tg 23)), (some 24), none, 2, []⟩,
  ⟨CI.mem 3 (mCall 42 [(tg 22), (tg 24)]), (some 25), none, 3, []⟩,
  ⟨CI.pure (pMov (tg 7)), (some 26), none, 4, []⟩,
  ⟨CI.pure (pFaddr 5 (tg 5)), (some 27), none, 5, []⟩,
  ⟨CI.load (tg 27) (mLoad1 (tg 27)), (some 28), none, 6, [3]⟩,
  ⟨CI.pure (pFaddr 3 (tg 2)), (some 29), none, 7, []⟩,
  ⟨CI.load (tg 29) (mLoad1 (tg 29)), (some 30), none, 8, [3]⟩,
  ⟨CI.mem 3 (mCall 43 [(tg 28), (tg 30)]), (some 31), none, 9, []⟩,
  ⟨CI.pure (pBuild [(.int .i64 0), (.int .i64 0), (.int .i64 0), (.int .u64 0), (.bool false), (.bool false)] [(0, 1, (cv (.int .i64 2))), (1, 1, (tg 25)), (2, 1, (tg 26)), (4, 1, (cv (.bool true))), (3, 1, (tg 31))]), (some 32), none, 10, []⟩,
  ⟨CI.mem 1 (mAlloc [(.int .i64 0), (.int .i64 0), (.int .i64 0), (.int .u64 0), (.bool false), (.bool false)]), (some 8), none, 11, []⟩,
  ⟨CI.mem 3 (mStore 6 (tg 8) (tg 32)), none, none, 12, []⟩]
@[simp] def ob2_4_ap := das_rule (c := ob2_4) rfl
def ob2_5 : List IS := [ip 33 (pFaddr 0 (tg 5)),
  il 34 (tg 33) (mLoad1 (tg 33)),
  ip 35 (pBin .eql (tg 34) (cv (.int .i64 5)))]
@[simp] def ob2_5_ap := ops_rule (c := ob2_5) rfl
def ob2_6 : List IS := [ip 36 (pFaddr 3 (tg 8)),
  il 37 (tg 36) (mLoad1 (tg 36)),
  ip 38 (pMov (tg 1)),
  ip 39 (pBin .add (tg 37) (tg 38)),
  ip 40 (pFaddr 3 (tg 8)),
  im0 3 (mStore 1 (tg 40) (tg 39))]
@[simp] def ob2_6_ap := ops_rule (c := ob2_6) rfl
def cb2_1 : SC := sCond (tg 35) (sReg (seqI ob2_6)) sSkip
@[simp] def cb2_1_ap := cond_rule (c := cb2_1) rfl
def cb2_2 : SC := sSeq (sReg (seqI ob2_5)) cb2_1
@[simp] def cb2_2_ap := seq_rule (c := cb2_2) rfl
def ob2_7 : List IS := [ip 41 (pFaddr 0 (tg 5)),
  il 42 (tg 41) (mLoad1 (tg 41)),
  ip 43 (pBin .eql (tg 42) (cv (.int .i64 6)))]
@[simp] def ob2_7_ap := ops_rule (c := ob2_7) rfl
def ob2_8 : List IS := [ip 44 (pFaddr 3 (tg 8)),
  il 45 (tg 44) (mLoad1 (tg 44)),
  ip 46 (pMov (tg 1)),
  ip 47 (pBin .neq (tg 45) (tg 46))]
@[simp] def ob2_8_ap := ops_rule (c := ob2_8) rfl
def ob2_9 : List IS := [ip 48 (pBuild [(.int .i64 0), (.int .i64 0), (.int .i64 0), (.int .u64 0), (.bool false), (.bool false)] []),
  im0 3 (mStore 6 (tg 4) (tg 48))]
@[simp] def ob2_9_ap := ops_rule (c := ob2_9) rfl
def cb2_3 : SC := sSeq (sReg (seqI ob2_9)) sRet
@[simp] def cb2_3_ap := seq_rule (c := cb2_3) rfl
def cb2_4 : SC := sCond (tg 47) cb2_3 sSkip
@[simp] def cb2_4_ap := cond_rule (c := cb2_4) rfl
def cb2_5 : SC := sSeq (sReg (seqI ob2_8)) cb2_4
@[simp] def cb2_5_ap := seq_rule (c := cb2_5) rfl
def ob2_10 : List IS := [ip 49 (pFaddr 6 (tg 5)),
  il 50 (tg 49) (mLoad1 (tg 49)),
  ip 51 (pFaddr 3 (tg 2)),
  il 52 (tg 51) (mLoad1 (tg 51)),
  im 3 53 (mCall 43 [(tg 50), (tg 52)]),
  ip 54 (pFaddr 3 (tg 8)),
  im0 3 (mStore 1 (tg 54) (tg 53))]
@[simp] def ob2_10_ap := ops_rule (c := ob2_10) rfl
def cb2_6 : SC := sSeq cb2_5 (sReg (seqI ob2_10))
@[simp] def cb2_6_ap := seq_rule (c := cb2_6) rfl
def cb2_7 : SC := sCond (tg 43) cb2_6 sSkip
@[simp] def cb2_7_ap := cond_rule (c := cb2_7) rfl
def cb2_8 : SC := sSeq (sReg (seqI ob2_7)) cb2_7
@[simp] def cb2_8_ap := seq_rule (c := cb2_8) rfl
def ob2_11 : List IS := [il 55 (tg 8) (mLoadN 6 (tg 8)),
  im0 3 (mStore 6 (tg 4) (tg 55))]
@[simp] def ob2_11_ap := ops_rule (c := ob2_11) rfl
def cb2_9 : SC := sSeq (sReg (seqI ob2_11)) sRet
@[simp] def cb2_9_ap := seq_rule (c := cb2_9) rfl
def cb2_10 : SC := sSeq cb2_8 cb2_9
@[simp] def cb2_10_ap := seq_rule (c := cb2_10) rfl
def cb2_11 : SC := sSeq cb2_2 cb2_10
@[simp] def cb2_11_ap := seq_rule (c := cb2_11) rfl
def cb2_12 : SC := sSeq (sAny ob2_4) cb2_11
@[simp] def cb2_12_ap := seq_rule (c := cb2_12) rfl
def cb2_13 : SC := sSeq (sReg (seqI ob2_3)) cb2_12
@[simp] def cb2_13_ap := seq_rule (c := cb2_13) rfl
def cb2_14 : SC := sSeq (sReg (seqI ob2_2)) cb2_13
@[simp] def cb2_14_ap := seq_rule (c := cb2_14) rfl
def cb2_15 : SC := sSeq (sReg (seqI ob2_1)) cb2_14
@[simp] def cb2_15_ap := seq_rule (c := cb2_15) rfl
def db2 : DFn := ⟨cb2_15, 56, [.cell 4 6]⟩
theorem db2_ok : fnOf Tryz.prog 21 = some db2 := by kernel_rfl
def ob3_1 : List IS := [im 1 2 (mBox (tg 0)),
  im 1 4 (mAlloc [(.int .i64 0), (.slice none 0 0), (.int .i64 0), (.slice none 0 0)])]
@[simp] def ob3_1_ap := ops_rule (c := ob3_1) rfl
def ob3_2 : List IS := [ip 6 (pFaddr 0 (tg 2)),
  ip 7 (pFaddr 1 (tg 6)),
  il 8 (tg 7) (mLoad1 (tg 7)),
  ip 9 (pFaddr 2 (tg 2)),
  il 10 (tg 9) (mLoad1 (tg 9)),
  ip 11 (pIaddrS 11 (tg 8) (tg 10)),
  il 12 (tg 11) (mLoadN 11 (tg 11)),
  im 1 5 (mAlloc [(.int .i64 0), (.int .i64 0), (.int .i64 0), (.int .i64 0), (.slice none 0 0), (.slice none 0 0), (.slice none 0 0), (.int .i64 0), (.int .i64 0), (.int .i64 0), (.int .i64 0)]),
  im0 3 (mStore 11 (tg 5) (tg 12))]
@[simp] def ob3_2_ap := ops_rule (c := ob3_2) rfl
def ob3_3 : List IS := [ip 13 (pFaddr 0 (tg 5)),
  il 14 (tg 13) (mLoad1 (tg 13)),
  ip 15 (pBin .eql (tg 14) (cv (.int .i64 3))),
  ip 16 (pMov (tg 15)),
  gd 16 false (some 17) (ip 17 (pFaddr 0 (tg 5))),
  gd 16 false (some 18) (il 18 (tg 17) (mLoad1 (tg 17))),
  gd 16 false (some 19) (ip 19 (pBin .eql (tg 18) (cv (.int .i64 7)))),
  ip 20 (pPick (tg 16) (cv (.bool true)) (tg 19)),
  ip 21 (pMov (tg 20)),
  gd 21 false (some 22) (ip 22 (pFaddr 0 (tg 5))),
  gd 21 false (some 23) (il 23 (tg 22) (mLoad1 (tg 22))),
  gd 21 false (some 24) (ip 24 (pBin .eql (tg 23) (cv (.int .i64 8)))),
  ip 25 (pPick (tg 21) (cv (.bool true)) (tg 24))]
@[simp] def ob3_3_ap := ops_rule (c := ob3_3) rfl
def ob3_4 : List IS := [ip 26 (pFaddr 2 (tg 2)),
  il 27 (tg 26) (mLoad1 (tg 26)),
  ip 28 (pBin .add (tg 27) (cv (.int .i64 1))),
  ip 29 (pFaddr 2 (tg 2)),
  im0 3 (mStore 1 (tg 29) (tg 28))]
@[simp] def ob3_4_ap := ops_rule (c := ob3_4) rfl
def ob3_5 : List IS := [il 30 (tg 2) (mLoadN 4 (tg 2)),
  im0 3 (mStore 4 (tg 4) (tg 30))]
@[simp] def ob3_5_ap := ops_rule (c := ob3_5) rfl
def cb3_1 : SC := sSeq (sReg (seqI ob3_5)) sRet
@[simp] def cb3_1_ap := seq_rule (c := cb3_1) rfl
def cb3_2 : SC := sSeq (sReg (seqI ob3_4)) cb3_1
@[simp] def cb3_2_ap := seq_rule (c := cb3_2) rfl
def cb3_3 : SC := sCond (tg 25) cb3_2 sSkip
@[simp] def cb3_3_ap := cond_rule (c := cb3_3) rfl
def cb3_4 : SC := sSeq (sReg (seqI ob3_3)) cb3_3
@[simp] def cb3_4_ap := seq_rule (c := cb3_4) rfl
def ob3_6 : List IS := [il 31 (tg 2) (mLoadN 4 (tg 2)),
  ip 32 (pFaddr 1 (tg 5)),
  il 33 (tg 32) (mLoad1 (tg 32)),
  ip 34 (pMov (tg 1)),
  im 3 35 (mCall 44 [(tg 31), (tg 33), (tg 34)]),
  im0 3 (mStore 4 (tg 4) (tg 35))]
@[simp] def ob3_6_ap := ops_rule (c := ob3_6) rfl
def cb3_5 : SC := sSeq (sReg (seqI ob3_6)) sRet
@[simp] def cb3_5_ap := seq_rule (c := cb3_5) rfl
def cb3_6 : SC := sSeq cb3_4 cb3_5
@[simp] def cb3_6_ap := seq_rule (c := cb3_6) rfl
def cb3_7 : SC := sSeq (sReg (seqI ob3_2)) cb3_6
@[simp] def cb3_7_ap := seq_rule (c := cb3_7) rfl
def cb3_8 : SC := sSeq (sReg (seqI ob3_1)) cb3_7
@[simp] def cb3_8_ap := seq_rule (c := cb3_8) rfl
def db3 : DFn := ⟨cb3_8, 36, [.cell 4 4]⟩
theorem db3_ok : fnOf Tryz.prog 22 = some db3 := by kernel_rfl
def ob4_1 : List IS := [im 1 1 (mBox (tg 0)),
  ip 2 (pMov (cv (.bool false)))]
@[simp] def ob4_1_ap := ops_rule (c := ob4_1) rfl
def ob4_2 : List IS := [ip 4 (pFaddr 0 (tg 1)),
  ip 5 (pFaddr 1 (tg 4)),
  il 6 (tg 5) (mLoad1 (tg 5)),
  ip 7 (pFaddr 2 (tg 1)),
  il 8 (tg 7) (mLoad1 (tg 7)),
  ip 9 (pIaddrS 11 (tg 6) (tg 8)),
  ip 10 (pFaddr 0 (tg 9)),
  il 11 (tg 10) (mLoad1 (tg 10)),
  ip 3 (pMov (tg 11))]
@[simp] def ob4_2_ap := ops_rule (c := ob4_2) rfl
def ob4_3 : List IS := [ip 12 (pMov (tg 3)),
  ip 13 (pBin .eql (tg 12) (cv (.int .i64 1))),
  ip 14 (pMov (tg 13)),
  gd 14 false (some 15) (ip 15 (pMov (tg 3))),
  gd 14 false (some 16) (ip 16 (pBin .eql (tg 15) (cv (.int .i64 9)))),
  ip 17 (pPick (tg 14) (cv (.bool true)) (tg 16)),
  ip 18 (pMov (tg 17)),
  gd 18 false (some 19) (ip 19 (pMov (tg 3))),
  gd 18 false (some 20) (ip 20 (pBin .eql (tg 19) (cv (.int .i64 10)))),
  ip 21 (pPick (tg 18) (cv (.bool true)) (tg 20)),
  ip 2 (pMov (tg 21))]
@[simp] def ob4_3_ap := ops_rule (c := ob4_3) rfl
def cb4_1 : SC := sSeq (sReg (seqI ob4_3)) sRet
@[simp] def cb4_1_ap := seq_rule (c := cb4_1) rfl
def cb4_2 : SC := sSeq (sReg (seqI ob4_2)) cb4_1
@[simp] def cb4_2_ap := seq_rule (c := cb4_2) rfl
def cb4_3 : SC := sSeq (sReg (seqI ob4_1)) cb4_2
@[simp] def cb4_3_ap := seq_rule (c := cb4_3) rfl
def db4 : DFn := ⟨cb4_3, 22, [.t 2]⟩
theorem db4_ok : fnOf Tryz.prog 23 = some db4 := by kernel_rfl
def ob5_1 : List IS := [im 1 1 (mBox (tg 0)),
  im 1 2 (mAlloc [(.int .i64 0), (.slice none 0 0), (.int .i64 0), (.slice none 0 0)])]
@[simp] def ob5_1_ap := ops_rule (c := ob5_1) rfl
def ob5_2 : List IS := [ip 4 (pFaddr 0 (tg 1)),
  ip 5 (pFaddr 1 (tg 4)),
  il 6 (tg 5) (mLoad1 (tg 5)),
  ip 7 (pFaddr 2 (tg 1)),
  il 8 (tg 7) (mLoad1 (tg 7)),
  ip 9 (pIaddrS 11 (tg 6) (tg 8)),
  il 10 (tg 9) (mLoadN 11 (tg 9)),
  im 1 3 (mAlloc [(.int .i64 0), (.int .i64 0), (.int .i64 0), (.int .i64 0), (.slice none 0 0), (.slice none 0 0), (.slice none 0 0), (.int .i64 0), (.int .i64 0), (.int .i64 0), (.int .i64 0)]),
  im0 3 (mStore 11 (tg 3) (tg 10))]
@[simp] def ob5_2_ap := ops_rule (c := ob5_2) rfl
def ob5_3 : List IS := [ip 11 (pFaddr 0 (tg 3)),
  il 12 (tg 11) (mLoad1 (tg 11)),
  ip 13 (pBin .eql (tg 12) (cv (.int .i64 1)))]
@[simp] def ob5_3_ap := ops_rule (c := ob5_3) rfl
def ob5_4 : List DA := [⟨CI.load (tg 1) (mLoadN 4 (tg 1)), (some 14), none, 0, []⟩,
  ⟨CI.pure (pFaddr 1 (tg 3)), (some 15), none, 1, []⟩,
  ⟨CI.load (tg 15) (mLoad1 (tg 15)), (some 16), none, 2, []⟩,
  ⟨CI.pure (pFaddr 5 (tg 3)), (some 17), none, 3, []⟩,
  ⟨CI.load (tg 17) (mLoad1 (tg 17)), (some 18), none, 4, []⟩,
  ⟨CI.pure (pFaddr 3 (tg 1)), (some 19), none, 5, []⟩,
  ⟨CI.load (tg 19) (mLoad1 (tg 19)), (some 20), none, 6, []⟩,
  ⟨CI.mem 3 (mCall 43 [(tg 18), (tg 20)]), (some 21), none, 7, [0, 2]⟩,
  ⟨CI.mem 3 (mCall 44 [(tg 14), (tg 16), (tg 21)]), (some 22), none, 8, []⟩,
  ⟨CI.mem 3 (mStore 4 (tg 2) (tg 22)), none, none, 9, []⟩]
@[simp] def ob5_4_ap := das_rule (c := ob5_4) rfl
def cb5_1 : SC := sSeq (sAny ob5_4) sRet
@[simp] def cb5_1_ap := seq_rule (c := cb5_1) rfl
def cb5_2 : SC := sCond (tg 13) cb5_1 sSkip
@[simp] def cb5_2_ap := cond_rule (c := cb5_2) rfl
def cb5_3 : SC := sSeq (sReg (seqI ob5_3)) cb5_2
@[simp] def cb5_3_ap := seq_rule (c := cb5_3) rfl
def ob5_5 : List IS := [ip 23 (pFaddr 2 (tg 1)),
  il 24 (tg 23) (mLoad1 (tg 23)),
  ip 25 (pBin .add (tg 24) (cv (.int .i64 1))),
  ip 26 (pFaddr 2 (tg 1)),
  im0 3 (mStore 1 (tg 26) (tg 25))]
@[simp] def ob5_5_ap := ops_rule (c := ob5_5) rfl
def ob5_6 : List IS := [ip 27 (pFaddr 0 (tg 3)),
  il 28 (tg 27) (mLoad1 (tg 27)),
  ip 29 (pBin .eql (tg 28) (cv (.int .i64 9))),
  ip 30 (pMov (tg 29)),
  gd 30 false (some 31) (ip 31 (pFaddr 5 (tg 3))),
  gd 30 false (some 32) (il 32 (tg 31) (mLoad1 (tg 31))),
  gd 30 false (some 33) (ip 33 (pFaddr 3 (tg 1))),
  gd 30 false (some 34) (il 34 (tg 33) (mLoad1 (tg 33))),
  gd 30 false (some 35) (im 3 35 (mCall 43 [(tg 32), (tg 34)])),
  gd 30 false (some 36) (ip 36 (pBin .eql (tg 35) (cv (.int .u64 0)))),
  ip 37 (pPick (tg 30) (cv (.bool true)) (tg 36))]
@[simp] def ob5_6_ap := ops_rule (c := ob5_6) rfl
def ob5_7 : List IS := [ip 38 (pFaddr 8 (tg 3)),
  il 39 (tg 38) (mLoad1 (tg 38)),
  ip 40 (pFaddr 2 (tg 1)),
  im0 3 (mStore 1 (tg 40) (tg 39))]
@[simp] def ob5_7_ap := ops_rule (c := ob5_7) rfl
def cb5_4 : SC := sCond (tg 37) (sReg (seqI ob5_7)) sSkip
@[simp] def cb5_4_ap := cond_rule (c := cb5_4) rfl
def cb5_5 : SC := sSeq (sReg (seqI ob5_6)) cb5_4
@[simp] def cb5_5_ap := seq_rule (c := cb5_5) rfl
def ob5_8 : List IS := [il 41 (tg 1) (mLoadN 4 (tg 1)),
  im0 3 (mStore 4 (tg 2) (tg 41))]
@[simp] def ob5_8_ap := ops_rule (c := ob5_8) rfl
def cb5_6 : SC := sSeq (sReg (seqI ob5_8)) sRet
@[simp] def cb5_6_ap := seq_rule (c := cb5_6) rfl
def cb5_7 : SC := sSeq cb5_5 cb5_6
@[simp] def cb5_7_ap := seq_rule (c := cb5_7) rfl
def cb5_8 : SC := sSeq (sReg (seqI ob5_5)) cb5_7
@[simp] def cb5_8_ap := seq_rule (c := cb5_8) rfl
def cb5_9 : SC := sSeq cb5_3 cb5_8
@[simp] def cb5_9_ap := seq_rule (c := cb5_9) rfl
def cb5_10 : SC := sSeq (sReg (seqI ob5_2)) cb5_9
@[simp] def cb5_10_ap := seq_rule (c := cb5_10) rfl
def cb5_11 : SC := sSeq (sReg (seqI ob5_1)) cb5_10
@[simp] def cb5_11_ap := seq_rule (c := cb5_11) rfl
def db5 : DFn := ⟨cb5_11, 42, [.cell 2 4]⟩
theorem db5_ok : fnOf Tryz.prog 24 = some db5 := by kernel_rfl
def ob6_1 : List IS := [im 1 1 (mBox (tg 0)),
  im 1 2 (mAlloc [(.int .i64 0), (.int .i64 0), (.int .i64 0), (.int .u64 0), (.bool false), (.bool false)])]
@[simp] def ob6_1_ap := ops_rule (c := ob6_1) rfl
def ob6_2 : List IS := [ip 6 (pFaddr 0 (tg 1)),
  ip 7 (pFaddr 1 (tg 6)),
  il 8 (tg 7) (mLoad1 (tg 7)),
  ip 9 (pFaddr 2 (tg 1)),
  il 10 (tg 9) (mLoad1 (tg 9)),
  ip 11 (pIaddrS 11 (tg 8) (tg 10)),
  il 12 (tg 11) (mLoadN 11 (tg 11)),
  im 1 3 (mAlloc [(.int .i64 0), (.int .i64 0), (.int .i64 0), (.int .i64 0), (.slice none 0 0), (.slice none 0 0), (.slice none 0 0), (.int .i64 0), (.int .i64 0), (.int .i64 0), (.int .i64 0)]),
  im0 3 (mStore 11 (tg 3) (tg 12))]
@[simp] def ob6_2_ap := ops_rule (c := ob6_2) rfl
def ob6_3 : List IS := [ip 14 (pFaddr 7 (tg 3)),
  il 15 (tg 14) (mLoad1 (tg 14)),
  im 3 16 (mCall 41 [(tg 15)]),
  ip 13 (pMov (tg 16)),
  ip 17 (pExtract (tg 13) 0),
  ip 18 (pExtract (tg 13) 1),
  ip 4 (pMov (tg 17)),
  ip 5 (pMov (tg 18))]
@[simp] def ob6_3_ap := ops_rule (c := ob6_3) rfl
def ob6_4 : List IS := [ip 19 (pFaddr 0 (tg 3)),
  il 20 (tg 19) (mLoad1 (tg 19))]
@[simp] def ob6_4_ap := ops_rule (c := ob6_4) rfl
def ob6_5 : List IS := [ip 22 (pBin .eql (tg 20) (cv (.int .i64 2))),
  ip 21 (pMov (tg 22))]
@[simp] def ob6_5_ap := ops_rule (c := ob6_5) rfl
def ob6_6 : List DA := [⟨CI.load (tg 3) (mLoadN 11 (tg 3)), (some 23), none, 0, []⟩,
  ⟨CI.pure (pFaddr 3 (tg 1)), (some 24), none, 1, []⟩,
  ⟨CI.load (tg 24) (mLoad1 (tg 24)), (some 25), none, 2, []⟩,
  ⟨CI.mem 3 (mCall 42 [(tg 23), (tg 25)]), (some 26), none, 3, []⟩,
  ⟨CI.pure (pFaddr 7 (tg 3)), (some 27), none, 4, []⟩,
  ⟨CI.load (tg 27) (mLoad1 (tg 27)), (some 28), none, 5, [3]⟩,
  ⟨CI.pure (pBuild [(.int .i64 0), (.int .i64 0), (.int .i64 0), (.int .u64 0), (.bool false), (.bool false)] [(0, 1, (cv (.int .i64 1))), (1, 1, (tg 26)), (2, 1, (tg 28))]), (some 29), none, 6, []⟩,
  ⟨CI.mem 3 (mStore 6 (tg 2) (tg 29)), none, none, 7, []⟩]
@[simp] def ob6_6_ap := das_rule (c := ob6_6) rfl
def cb6_1 : SC := sSeq (sAny ob6_6) sRet
@[simp] def cb6_1_ap := seq_rule (c := cb6_1) rfl
def ob6_7 : List IS := [ip 31 (pBin .eql (tg 20) (cv (.int .i64 3))),
  ip 30 (pMov (tg 31))]
@[simp] def ob6_7_ap := ops_rule (c := ob6_7) rfl
def ob6_8 : List DA := [⟨CI.load (tg 3) (mLoadN 11 (tg 3)), (some 32), none, 0, []⟩,
  ⟨CI.pure (pFaddr 3 (tg 1)), (some 33), none, 1, []⟩,
  ⟨CI.load (tg 33) (mLoad1 (tg 33)), (some 34), none, 2, []⟩,
  ⟨CI.mem 3 (mCall 42 [(tg 32), (tg 34)]), (some 35), none, 3, []⟩,
  ⟨CI.pure (pFaddr 7 (tg 3)), (some 36), none, 4, []⟩,
  ⟨CI.load (tg 36) (mLoad1 (tg 36)), (some 37), none, 5, [3]⟩,
  ⟨CI.pure (pFaddr 5 (tg 3)), (some 38), none, 6, []⟩,
  ⟨CI.load (tg 38) (mLoad1 (tg 38)), (some 39), none, 7, [3]⟩,
  ⟨CI.pure (pFaddr 3 (tg 1)), (some 40), none, 8, []⟩,
  ⟨CI.load (tg 40) (mLoad1 (tg 40)), (some 41), none, 9, [3]⟩,
  ⟨CI.mem 3 (mCall 43 [(tg 39), (tg 41)]), (some 42), none, 10, [5]⟩,
  ⟨CI.pure (pBuild [(.int .i64 0), (.int .i64 0), (.int .i64 0), (.int .u64 0), (.bool false), (.bool false)] [(0, 1, (cv (.int .i64 2))), (1, 1, (tg 35)), (2, 1, (tg 37)), (3, 1, (tg 42))]), (some 43), none, 11, []⟩,
  ⟨CI.mem 3 (mStore 6 (tg 2) (tg 43)), none, none, 12, []⟩]
@[simp] def ob6_8_ap := das_rule (c := ob6_8) rfl
def cb6_2 : SC := sSeq (sAny ob6_8) sRet
@[simp] def cb6_2_ap := seq_rule (c := cb6_2) rfl
def ob6_9 : List IS := [ip 45 (pBin .eql (tg 20) (cv (.int .i64 7))),
  ip 44 (pMov (tg 45))]
@[simp] def ob6_9_ap := ops_rule (c := ob6_9) rfl
def ob6_10 : List IS := [ip 46 (pFaddr 7 (tg 3)),
  il 47 (tg 46) (mLoad1 (tg 46)),
  ip 48 (pBuild [(.int .i64 0), (.int .i64 0), (.int .i64 0), (.int .u64 0), (.bool false), (.bool false)] [(0, 1, (cv (.int .i64 3))), (2, 1, (tg 47))]),
  im0 3 (mStore 6 (tg 2) (tg 48))]
@[simp] def ob6_10_ap := ops_rule (c := ob6_10) rfl
def cb6_3 : SC := sSeq (sReg (seqI ob6_10)) sRet
@[simp] def cb6_3_ap := seq_rule (c := cb6_3) rfl
def ob6_11 : List IS := [ip 50 (pBin .eql (tg 20) (cv (.int .i64 8))),
  ip 49 (pMov (tg 50))]
@[simp] def ob6_11_ap := ops_rule (c := ob6_11) rfl
def ob6_12 : List IS := [ip 51 (pFaddr 5 (tg 3)),
  il 52 (tg 51) (mLoad1 (tg 51)),
  ip 53 (pFaddr 3 (tg 1)),
  il 54 (tg 53) (mLoad1 (tg 53)),
  im 3 55 (mCall 43 [(tg 52), (tg 54)]),
  ip 56 (pBuild [(.int .i64 0), (.int .i64 0), (.int .i64 0), (.int .u64 0), (.bool false), (.bool false)] [(0, 1, (cv (.int .i64 4))), (3, 1, (tg 55))]),
  im0 3 (mStore 6 (tg 2) (tg 56))]
@[simp] def ob6_12_ap := ops_rule (c := ob6_12) rfl
def cb6_4 : SC := sSeq (sReg (seqI ob6_12)) sRet
@[simp] def cb6_4_ap := seq_rule (c := cb6_4) rfl
def cb6_5 : SC := sCond (tg 49) cb6_4 sSkip
@[simp] def cb6_5_ap := cond_rule (c := cb6_5) rfl
def cb6_6 : SC := sSeq (sReg (seqI ob6_11)) cb6_5
@[simp] def cb6_6_ap := seq_rule (c := cb6_6) rfl
def cb6_7 : SC := sCond (tg 44) cb6_3 cb6_6
@[simp] def cb6_7_ap := cond_rule (c := cb6_7) rfl
def cb6_8 : SC := sSeq (sReg (seqI ob6_9)) cb6_7
@[simp] def cb6_8_ap := seq_rule (c := cb6_8) rfl
def cb6_9 : SC := sCond (tg 30) cb6_2 cb6_8
@[simp] def cb6_9_ap := cond_rule (c := cb6_9) rfl
def cb6_10 : SC := sSeq (sReg (seqI ob6_7)) cb6_9
@[simp] def cb6_10_ap := seq_rule (c := cb6_10) rfl
def cb6_11 : SC := sCond (tg 21) cb6_1 cb6_10
@[simp] def cb6_11_ap := cond_rule (c := cb6_11) rfl
def cb6_12 : SC := sSeq (sReg (seqI ob6_5)) cb6_11
@[simp] def cb6_12_ap := seq_rule (c := cb6_12) rfl
def cb6_13 : SC := sBlock 0 cb6_12
@[simp] def cb6_13_ap := block_rule (c := cb6_13) rfl
def cb6_14 : SC := sSeq (sReg (seqI ob6_4)) cb6_13
@[simp] def cb6_14_ap := seq_rule (c := cb6_14) rfl
def ob6_13 : List IS := [il 57 (tg 3) (mLoadN 11 (tg 3)),
  ip 58 (pFaddr 3 (tg 1)),
  il 59 (tg 58) (mLoad1 (tg 58)),
  im 3 60 (mCall 42 [(tg 57), (tg 59)]),
  ip 61 (pMov (tg 4)),
  ip 62 (pBuild [(.int .i64 0), (.int .i64 0), (.int .i64 0), (.int .u64 0), (.bool false), (.bool false)] [(0, 1, (cv (.int .i64 1))), (1, 1, (tg 60)), (2, 1, (tg 61)), (4, 1, (cv (.bool true)))]),
  im0 3 (mStore 6 (tg 2) (tg 62))]
@[simp] def ob6_13_ap := ops_rule (c := ob6_13) rfl
def cb6_15 : SC := sSeq (sReg (seqI ob6_13)) sRet
@[simp] def cb6_15_ap := seq_rule (c := cb6_15) rfl
def cb6_16 : SC := sSeq cb6_14 cb6_15
@[simp] def cb6_16_ap := seq_rule (c := cb6_16) rfl
def cb6_17 : SC := sSeq (sReg (seqI ob6_3)) cb6_16
@[simp] def cb6_17_ap := seq_rule (c := cb6_17) rfl
def cb6_18 : SC := sSeq (sReg (seqI ob6_2)) cb6_17
@[simp] def cb6_18_ap := seq_rule (c := cb6_18) rfl
def cb6_19 : SC := sSeq (sReg (seqI ob6_1)) cb6_18
@[simp] def cb6_19_ap := seq_rule (c := cb6_19) rfl
def db6 : DFn := ⟨cb6_19, 63, [.cell 2 6]⟩
theorem db6_ok : fnOf Tryz.prog 25 = some db6 := by kernel_rfl
def oc3_1 : List IS := [im 1 3 (mBox (tg 0)),
  im 1 4 (mBox (tg 1)),
  im 1 5 (mBox (tg 2)),
  ip 6 (pMov (cv (.bool false)))]
@[simp] def oc3_1_ap := ops_rule (c := oc3_1) rfl
def oc3_2 : List IS := [ip 9 (pFaddr 0 (tg 3)),
  il 10 (tg 9) (mLoad1 (tg 9)),
  ip 11 (pBin .lss (tg 10) (cv (.int .i64 1))),
  ip 12 (pMov (tg 11)),
  gd 12 false (some 13) (ip 13 (pFaddr 0 (tg 3))),
  gd 12 false (some 14) (il 14 (tg 13) (mLoad1 (tg 13))),
  gd 12 false (some 15) (ip 15 (pBin .gtr (tg 14) (cv (.int .i64 10)))),
  ip 16 (pPick (tg 12) (cv (.bool true)) (tg 15)),
  ip 17 (pMov (tg 16)),
  gd 17 false (some 18) (ip 18 (pFaddr 0 (tg 3))),
  gd 17 false (some 19) (il 19 (tg 18) (mLoad1 (tg 18))),
  gd 17 false (some 20) (ip 20 (pFaddr 7 (tg 3))),
  gd 17 false (some 21) (il 21 (tg 20) (mLoad1 (tg 20))),
  gd 17 false (some 22) (im 3 22 (mCall 55 [(tg 19), (tg 21)])),
  gd 17 false (some 23) (ip 23 (pUn .not (tg 22))),
  ip 24 (pPick (tg 17) (cv (.bool true)) (tg 23))]
@[simp] def oc3_2_ap := ops_rule (c := oc3_2) rfl
def oc3_3 : List IS := [ip 6 (pMov (cv (.bool false)))]
@[simp] def oc3_3_ap := ops_rule (c := oc3_3) rfl
def cc3_1 : SC := sSeq (sReg (seqI oc3_3)) sRet
@[simp] def cc3_1_ap := seq_rule (c := cc3_1) rfl
def cc3_2 : SC := sCond (tg 24) cc3_1 sSkip
@[simp] def cc3_2_ap := cond_rule (c := cc3_2) rfl
def cc3_3 : SC := sSeq (sReg (seqI oc3_2)) cc3_2
@[simp] def cc3_3_ap := seq_rule (c := cc3_3) rfl
def oc3_4 : List IS := [ip 25 (pFaddr 0 (tg 3)),
  il 26 (tg 25) (mLoad1 (tg 25)),
  im 3 27 (mCall 56 [(tg 26)]),
  ip 28 (pMov (tg 27)),
  gd 28 true (some 29) (ip 29 (pFaddr 1 (tg 3))),
  gd 28 true (some 30) (il 30 (tg 29) (mLoad1 (tg 29))),
  gd 28 true (some 31) (ip 31 (pBin .lss (tg 30) (cv (.int .i64 0)))),
  gd 28 true (some 32) (ip 32 (pMov (tg 31))),
  gd 32 false (some 33) (ip 33 (pFaddr 1 (tg 3))),
  gd 32 false (some 34) (il 34 (tg 33) (mLoad1 (tg 33))),
  gd 32 false (some 35) (ip 35 (pFaddr 0 (tg 5))),
  gd 32 false (some 36) (il 36 (tg 35) (mLoad1 (tg 35))),
  gd 32 false (some 37) (ip 37 (pBin .geq (tg 34) (tg 36))),
  gd 28 true (some 38) (ip 38 (pPick (tg 32) (cv (.bool true)) (tg 37))),
  ip 39 (pPick (tg 28) (tg 38) (cv (.bool false))),
  ip 40 (pMov (tg 39)),
  gd 40 false (some 41) (ip 41 (pFaddr 0 (tg 3))),
  gd 40 false (some 42) (il 42 (tg 41) (mLoad1 (tg 41))),
  gd 40 false (some 43) (im 3 43 (mCall 56 [(tg 42)])),
  gd 40 false (some 44) (ip 44 (pUn .not (tg 43))),
  gd 40 false (some 45) (ip 45 (pMov (tg 44))),
  gd 45 true (some 46) (ip 46 (pFaddr 1 (tg 3))),
  gd 45 true (some 47) (il 47 (tg 46) (mLoad1 (tg 46))),
  gd 45 true (some 48) (ip 48 (pBin .neq (tg 47) (cv (.int .i64 0)))),
  gd 40 false (some 49) (ip 49 (pPick (tg 45) (tg 48) (cv (.bool false)))),
  ip 50 (pPick (tg 40) (cv (.bool true)) (tg 49))]
@[simp] def oc3_4_ap := ops_rule (c := oc3_4) rfl
def oc3_5 : List IS := [ip 6 (pMov (cv (.bool false)))]
@[simp] def oc3_5_ap := ops_rule (c := oc3_5) rfl
def cc3_4 : SC := sSeq (sReg (seqI oc3_5)) sRet
@[simp] def cc3_4_ap := seq_rule (c := cc3_4) rfl
def cc3_5 : SC := sCond (tg 50) cc3_4 sSkip
@[simp] def cc3_5_ap := cond_rule (c := cc3_5) rfl
def cc3_6 : SC := sSeq (sReg (seqI oc3_4)) cc3_5
@[simp] def cc3_6_ap := seq_rule (c := cc3_6) rfl
def oc3_6 : List IS := [ip 51 (pFaddr 0 (tg 3)),
  il 52 (tg 51) (mLoad1 (tg 51)),
  im 3 53 (mCall 57 [(tg 52)])]
@[simp] def oc3_6_ap := ops_rule (c := oc3_6) rfl
def oc3_7 : List IS := [ip 54 (pFaddr 3 (tg 3)),
  il 55 (tg 54) (mLoad1 (tg 54)),
  ip 7 (pMov (tg 55))]
@[simp] def oc3_7_ap := ops_rule (c := oc3_7) rfl
def oc3_8 : List IS := [ip 56 (pMov (tg 7)),
  ip 57 (pBin .eql (tg 56) (cv (.int .i64 0)))]
@[simp] def oc3_8_ap := ops_rule (c := oc3_8) rfl
def oc3_9 : List IS := [ip 7 (pMov (cv (.int .i64 1)))]
@[simp] def oc3_9_ap := ops_rule (c := oc3_9) rfl
def oc3_10 : List IS := [ip 58 (pMov (tg 7)),
  im 3 59 (mCall 58 [(tg 58)]),
  ip 60 (pUn .not (tg 59))]
@[simp] def oc3_10_ap := ops_rule (c := oc3_10) rfl
def oc3_11 : List IS := [ip 6 (pMov (cv (.bool false)))]
@[simp] def oc3_11_ap := ops_rule (c := oc3_11) rfl
def cc3_7 : SC := sSeq (sReg (seqI oc3_11)) sRet
@[simp] def cc3_7_ap := seq_rule (c := cc3_7) rfl
def cc3_8 : SC := sCond (tg 60) cc3_7 sSkip
@[simp] def cc3_8_ap := cond_rule (c := cc3_8) rfl
def cc3_9 : SC := sSeq (sReg (seqI oc3_10)) cc3_8
@[simp] def cc3_9_ap := seq_rule (c := cc3_9) rfl
def cc3_10 : SC := sCond (tg 57) (sReg (seqI oc3_9)) cc3_9
@[simp] def cc3_10_ap := cond_rule (c := cc3_10) rfl
def cc3_11 : SC := sSeq (sReg (seqI oc3_8)) cc3_10
@[simp] def cc3_11_ap := seq_rule (c := cc3_11) rfl
def oc3_12 : List IS := [ip 61 (pFaddr 2 (tg 3)),
  il 62 (tg 61) (mLoad1 (tg 61)),
  ip 63 (pBin .lss (tg 62) (cv (.int .i64 0))),
  ip 64 (pMov (tg 63)),
  gd 64 false (some 65) (ip 65 (pFaddr 2 (tg 3))),
  gd 64 false (some 66) (il 66 (tg 65) (mLoad1 (tg 65))),
  gd 64 false (some 67) (ip 67 (pFaddr 0 (tg 4))),
  gd 64 false (some 68) (il 68 (tg 67) (mLoad1 (tg 67))),
  gd 64 false (some 69) (ip 69 (pMov (tg 7))),
  gd 64 false (some 70) (ip 70 (pBin .sub (tg 68) (tg 69))),
  gd 64 false (some 71) (ip 71 (pBin .gtr (tg 66) (tg 70))),
  ip 72 (pPick (tg 64) (cv (.bool true)) (tg 71)),
  ip 73 (pMov (tg 72)),
  gd 73 false (some 74) (ip 74 (pFaddr 3 (tg 3))),
  gd 73 false (some 75) (il 75 (tg 74) (mLoad1 (tg 74))),
  gd 73 false (some 76) (ip 76 (pBin .eql (tg 75) (cv (.int .i64 0)))),
  gd 73 false (some 77) (ip 77 (pMov (tg 76))),
  gd 77 true (some 78) (ip 78 (pFaddr 4 (tg 3))),
  gd 77 true (some 79) (il 79 (tg 78) (mLoad1 (tg 78))),
  gd 77 true (some 80) (ip 80 (pLen (tg 79))),
  gd 77 true (some 81) (ip 81 (pBin .gtr (tg 80) (cv (.int .i64 0)))),
  gd 73 false (some 82) (ip 82 (pPick (tg 77) (tg 81) (cv (.bool false)))),
  ip 83 (pPick (tg 73) (cv (.bool true)) (tg 82)),
  ip 84 (pMov (tg 83)),
  gd 84 false (some 85) (ip 85 (pFaddr 3 (tg 3))),
  gd 84 false (some 86) (il 86 (tg 85) (mLoad1 (tg 85))),
  gd 84 false (some 87) (ip 87 (pBin .gtr (tg 86) (cv (.int .i64 0)))),
  gd 84 false (some 88) (ip 88 (pMov (tg 87))),
  gd 88 true (some 89) (ip 89 (pFaddr 4 (tg 3))),
  gd 88 true (some 90) (il 90 (tg 89) (mLoad1 (tg 89))),
  gd 88 true (some 91) (ip 91 (pFaddr 0 (tg 5))),
  gd 88 true (some 92) (il 92 (tg 91) (mLoad1 (tg 91))),
  gd 88 true (some 93) (im 3 93 (mCall 59 [(tg 90), (tg 92)])),
  gd 88 true (some 94) (ip 94 (pUn .not (tg 93))),
  gd 84 false (some 95) (ip 95 (pPick (tg 88) (tg 94) (cv (.bool false)))),
  ip 96 (pPick (tg 84) (cv (.bool true)) (tg 95))]
@[simp] def oc3_12_ap := ops_rule (c := oc3_12) rfl
def oc3_13 : List IS := [ip 6 (pMov (cv (.bool false)))]
@[simp] def oc3_13_ap := ops_rule (c := oc3_13) rfl
def cc3_12 : SC := sSeq (sReg (seqI oc3_13)) sRet
@[simp] def cc3_12_ap := seq_rule (c := cc3_12) rfl
def cc3_13 : SC := sCond (tg 96) cc3_12 sSkip
@[simp] def cc3_13_ap := cond_rule (c := cc3_13) rfl
def cc3_14 : SC := sSeq (sReg (seqI oc3_12)) cc3_13
@[simp] def cc3_14_ap := seq_rule (c := cc3_14) rfl
def cc3_15 : SC := sSeq cc3_11 cc3_14
@[simp] def cc3_15_ap := seq_rule (c := cc3_15) rfl
def cc3_16 : SC := sSeq (sReg (seqI oc3_7)) cc3_15
@[simp] def cc3_16_ap := seq_rule (c := cc3_16) rfl
def oc3_14 : List IS := [ip 97 (pFaddr 2 (tg 3)),
  il 98 (tg 97) (mLoad1 (tg 97)),
  ip 99 (pBin .neq (tg 98) (cv (.int .i64 0))),
  ip 100 (pMov (tg 99)),
  gd 100 false (some 101) (ip 101 (pFaddr 3 (tg 3))),
  gd 100 false (some 102) (il 102 (tg 101) (mLoad1 (tg 101))),
  gd 100 false (some 103) (ip 103 (pBin .neq (tg 102) (cv (.int .i64 0)))),
  ip 104 (pPick (tg 100) (cv (.bool true)) (tg 103)),
  ip 105 (pMov (tg 104)),
  gd 105 false (some 106) (ip 106 (pFaddr 4 (tg 3))),
  gd 105 false (some 107) (il 107 (tg 106) (mLoad1 (tg 106))),
  gd 105 false (some 108) (ip 108 (pLen (tg 107))),
  gd 105 false (some 109) (ip 109 (pBin .gtr (tg 108) (cv (.int .i64 0)))),
  ip 110 (pPick (tg 105) (cv (.bool true)) (tg 109))]
@[simp] def oc3_14_ap := ops_rule (c := oc3_14) rfl
def oc3_15 : List IS := [ip 6 (pMov (cv (.bool false)))]
@[simp] def oc3_15_ap := ops_rule (c := oc3_15) rfl
def cc3_17 : SC := sSeq (sReg (seqI oc3_15)) sRet
@[simp] def cc3_17_ap := seq_rule (c := cc3_17) rfl
def cc3_18 : SC := sCond (tg 110) cc3_17 sSkip
@[simp] def cc3_18_ap := cond_rule (c := cc3_18) rfl
def cc3_19 : SC := sSeq (sReg (seqI oc3_14)) cc3_18
@[simp] def cc3_19_ap := seq_rule (c := cc3_19) rfl
def cc3_20 : SC := sCond (tg 53) cc3_16 cc3_19
@[simp] def cc3_20_ap := cond_rule (c := cc3_20) rfl
def cc3_21 : SC := sSeq (sReg (seqI oc3_6)) cc3_20
@[simp] def cc3_21_ap := seq_rule (c := cc3_21) rfl
def oc3_16 : List IS := [ip 111 (pFaddr 0 (tg 3)),
  il 112 (tg 111) (mLoad1 (tg 111)),
  ip 113 (pBin .neq (tg 112) (cv (.int .i64 2))),
  ip 114 (pMov (tg 113)),
  gd 114 true (some 115) (ip 115 (pFaddr 0 (tg 3))),
  gd 114 true (some 116) (il 116 (tg 115) (mLoad1 (tg 115))),
  gd 114 true (some 117) (ip 117 (pBin .neq (tg 116) (cv (.int .i64 7)))),
  ip 118 (pPick (tg 114) (tg 117) (cv (.bool false))),
  ip 119 (pMov (tg 118)),
  gd 119 true (some 120) (ip 120 (pFaddr 0 (tg 3))),
  gd 119 true (some 121) (il 121 (tg 120) (mLoad1 (tg 120))),
  gd 119 true (some 122) (ip 122 (pBin .neq (tg 121) (cv (.int .i64 9)))),
  ip 123 (pPick (tg 119) (tg 122) (cv (.bool false))),
  ip 8 (pMov (tg 123))]
@[simp] def oc3_16_ap := ops_rule (c := oc3_16) rfl
def oc3_17 : List IS := [ip 124 (pMov (tg 8)),
  ip 125 (pMov (tg 124)),
  gd 125 true (some 126) (ip 126 (pFaddr 5 (tg 3))),
  gd 125 true (some 127) (il 127 (tg 126) (mLoad1 (tg 126))),
  gd 125 true (some 128) (ip 128 (pFaddr 0 (tg 5))),
  gd 125 true (some 129) (il 129 (tg 128) (mLoad1 (tg 128))),
  gd 125 true (some 130) (im 3 130 (mCall 59 [(tg 127), (tg 129)])),
  gd 125 true (some 131) (ip 131 (pUn .not (tg 130))),
  ip 132 (pPick (tg 125) (tg 131) (cv (.bool false))),
  ip 133 (pMov (tg 132)),
  gd 133 false (some 134) (ip 134 (pMov (tg 8))),
  gd 133 false (some 135) (ip 135 (pUn .not (tg 134))),
  gd 133 false (some 136) (ip 136 (pMov (tg 135))),
  gd 136 true (some 137) (ip 137 (pFaddr 5 (tg 3))),
  gd 136 true (some 138) (il 138 (tg 137) (mLoad1 (tg 137))),
  gd 136 true (some 139) (ip 139 (pLen (tg 138))),
  gd 136 true (some 140) (ip 140 (pBin .gtr (tg 139) (cv (.int .i64 0)))),
  gd 133 false (some 141) (ip 141 (pPick (tg 136) (tg 140) (cv (.bool false)))),
  ip 142 (pPick (tg 133) (cv (.bool true)) (tg 141))]
@[simp] def oc3_17_ap := ops_rule (c := oc3_17) rfl
def oc3_18 : List IS := [ip 6 (pMov (cv (.bool false)))]
@[simp] def oc3_18_ap := ops_rule (c := oc3_18) rfl
def cc3_22 : SC := sSeq (sReg (seqI oc3_18)) sRet
@[simp] def cc3_22_ap := seq_rule (c := cc3_22) rfl
def cc3_23 : SC := sCond (tg 142) cc3_22 sSkip
@[simp] def cc3_23_ap := cond_rule (c := cc3_23) rfl
def cc3_24 : SC := sSeq (sReg (seqI oc3_17)) cc3_23
@[simp] def cc3_24_ap := seq_rule (c := cc3_24) rfl
def oc3_19 : List IS := [ip 143 (pFaddr 0 (tg 3)),
  il 144 (tg 143) (mLoad1 (tg 143)),
  ip 145 (pBin .eql (tg 144) (cv (.int .i64 6))),
  ip 146 (pMov (tg 145)),
  gd 146 true (some 147) (ip 147 (pFaddr 6 (tg 3))),
  gd 146 true (some 148) (il 148 (tg 147) (mLoad1 (tg 147))),
  gd 146 true (some 149) (ip 149 (pFaddr 0 (tg 5))),
  gd 146 true (some 150) (il 150 (tg 149) (mLoad1 (tg 149))),
  gd 146 true (some 151) (im 3 151 (mCall 59 [(tg 148), (tg 150)])),
  gd 146 true (some 152) (ip 152 (pUn .not (tg 151))),
  ip 153 (pPick (tg 146) (tg 152) (cv (.bool false))),
  ip 154 (pMov (tg 153)),
  gd 154 false (some 155) (ip 155 (pFaddr 0 (tg 3))),
  gd 154 false (some 156) (il 156 (tg 155) (mLoad1 (tg 155))),
  gd 154 false (some 157) (ip 157 (pBin .neq (tg 156) (cv (.int .i64 6)))),
  gd 154 false (some 158) (ip 158 (pMov (tg 157))),
  gd 158 true (some 159) (ip 159 (pFaddr 6 (tg 3))),
  gd 158 true (some 160) (il 160 (tg 159) (mLoad1 (tg 159))),
  gd 158 true (some 161) (ip 161 (pLen (tg 160))),
  gd 158 true (some 162) (ip 162 (pBin .gtr (tg 161) (cv (.int .i64 0)))),
  gd 154 false (some 163) (ip 163 (pPick (tg 158) (tg 162) (cv (.bool false)))),
  ip 164 (pPick (tg 154) (cv (.bool true)) (tg 163))]
@[simp] def oc3_19_ap := ops_rule (c := oc3_19) rfl
def oc3_20 : List IS := [ip 6 (pMov (cv (.bool false)))]
@[simp] def oc3_20_ap := ops_rule (c := oc3_20) rfl
def cc3_25 : SC := sSeq (sReg (seqI oc3_20)) sRet
@[simp] def cc3_25_ap := seq_rule (c := cc3_25) rfl
def cc3_26 : SC := sCond (tg 164) cc3_25 sSkip
@[simp] def cc3_26_ap := cond_rule (c := cc3_26) rfl
def cc3_27 : SC := sSeq (sReg (seqI oc3_19)) cc3_26
@[simp] def cc3_27_ap := seq_rule (c := cc3_27) rfl
def oc3_21 : List IS := [ip 165 (pFaddr 0 (tg 3)),
  il 166 (tg 165) (mLoad1 (tg 165)),
  ip 167 (pBin .eql (tg 166) (cv (.int .i64 9))),
  ip 168 (pMov (tg 167)),
  gd 168 false (some 169) (ip 169 (pFaddr 0 (tg 3))),
  gd 168 false (some 170) (il 170 (tg 169) (mLoad1 (tg 169))),
  gd 168 false (some 171) (ip 171 (pBin .eql (tg 170) (cv (.int .i64 10)))),
  ip 172 (pPick (tg 168) (cv (.bool true)) (tg 171))]
@[simp] def oc3_21_ap := ops_rule (c := oc3_21) rfl
def oc3_22 : List IS := [ip 173 (pFaddr 8 (tg 3)),
  il 174 (tg 173) (mLoad1 (tg 173)),
  ip 175 (pBin .geq (tg 174) (cv (.int .i64 0))),
  ip 176 (pMov (tg 175)),
  gd 176 true (some 177) (ip 177 (pFaddr 8 (tg 3))),
  gd 176 true (some 178) (il 178 (tg 177) (mLoad1 (tg 177))),
  gd 176 true (some 179) (ip 179 (pFaddr 1 (tg 5))),
  gd 176 true (some 180) (il 180 (tg 179) (mLoad1 (tg 179))),
  gd 176 true (some 181) (ip 181 (pLen (tg 180))),
  gd 176 true (some 182) (ip 182 (pBin .leq (tg 178) (tg 181))),
  ip 183 (pPick (tg 176) (tg 182) (cv (.bool false))),
  ip 6 (pMov (tg 183))]
@[simp] def oc3_22_ap := ops_rule (c := oc3_22) rfl
def cc3_28 : SC := sSeq (sReg (seqI oc3_22)) sRet
@[simp] def cc3_28_ap := seq_rule (c := cc3_28) rfl
def cc3_29 : SC := sCond (tg 172) cc3_28 sSkip
@[simp] def cc3_29_ap := cond_rule (c := cc3_29) rfl
def cc3_30 : SC := sSeq (sReg (seqI oc3_21)) cc3_29
@[simp] def cc3_30_ap := seq_rule (c := cc3_30) rfl
def oc3_23 : List IS := [ip 184 (pFaddr 8 (tg 3)),
  il 185 (tg 184) (mLoad1 (tg 184)),
  ip 186 (pBin .eql (tg 185) (cv (.int .i64 0))),
  ip 6 (pMov (tg 186))]
@[simp] def oc3_23_ap := ops_rule (c := oc3_23) rfl
def cc3_31 : SC := sSeq (sReg (seqI oc3_23)) sRet
@[simp] def cc3_31_ap := seq_rule (c := cc3_31) rfl
def cc3_32 : SC := sSeq cc3_30 cc3_31
@[simp] def cc3_32_ap := seq_rule (c := cc3_32) rfl
def cc3_33 : SC := sSeq cc3_27 cc3_32
@[simp] def cc3_33_ap := seq_rule (c := cc3_33) rfl
def cc3_34 : SC := sSeq cc3_24 cc3_33
@[simp] def cc3_34_ap := seq_rule (c := cc3_34) rfl
def cc3_35 : SC := sSeq (sReg (seqI oc3_16)) cc3_34
@[simp] def cc3_35_ap := seq_rule (c := cc3_35) rfl
def cc3_36 : SC := sSeq cc3_21 cc3_35
@[simp] def cc3_36_ap := seq_rule (c := cc3_36) rfl
def cc3_37 : SC := sSeq cc3_6 cc3_36
@[simp] def cc3_37_ap := seq_rule (c := cc3_37) rfl
def cc3_38 : SC := sSeq cc3_3 cc3_37
@[simp] def cc3_38_ap := seq_rule (c := cc3_38) rfl
def cc3_39 : SC := sSeq (sReg (seqI oc3_1)) cc3_38
@[simp] def cc3_39_ap := seq_rule (c := cc3_39) rfl
def dc3 : DFn := ⟨cc3_39, 187, [.t 6]⟩
theorem dc3_ok : fnOf Tryz.prog 37 = some dc3 := by kernel_rfl
def oc7_1 : List IS := [ip 2 (pMov (cv (.int .i64 0))),
  ip 3 (pMov (cv (.int .i64 0)))]
@[simp] def oc7_1_ap := ops_rule (c := oc7_1) rfl
def oc7_2 : List IS := [ip 4 (pMov (tg 0))]
@[simp] def oc7_2_ap := ops_rule (c := oc7_2) rfl
def oc7_3 : List IS := [ip 6 (pBin .eql (tg 4) (cv (.int .i64 2))),
  ip 5 (pMov (tg 6))]
@[simp] def oc7_3_ap := ops_rule (c := oc7_3) rfl
def oc7_4 : List IS := [ip 2 (pMov (cv (.int .i64 2))),
  ip 3 (pMov (cv (.int .i64 1)))]
@[simp] def oc7_4_ap := ops_rule (c := oc7_4) rfl
def cc7_1 : SC := sSeq (sReg (seqI oc7_4)) sRet
@[simp] def cc7_1_ap := seq_rule (c := cc7_1) rfl
def oc7_5 : List IS := [ip 8 (pBin .eql (tg 4) (cv (.int .i64 3))),
  ip 7 (pMov (tg 8))]
@[simp] def oc7_5_ap := ops_rule (c := oc7_5) rfl
def oc7_6 : List IS := [ip 2 (pMov (cv (.int .i64 1))),
  ip 3 (pMov (cv (.int .i64 3)))]
@[simp] def oc7_6_ap := ops_rule (c := oc7_6) rfl
def cc7_2 : SC := sSeq (sReg (seqI oc7_6)) sRet
@[simp] def cc7_2_ap := seq_rule (c := cc7_2) rfl
def oc7_7 : List IS := [ip 10 (pBin .eql (tg 4) (cv (.int .i64 4))),
  ip 9 (pMov (tg 10))]
@[simp] def oc7_7_ap := ops_rule (c := oc7_7) rfl
def oc7_8 : List IS := [ip 2 (pMov (cv (.int .i64 2))),
  ip 3 (pMov (cv (.int .i64 3)))]
@[simp] def oc7_8_ap := ops_rule (c := oc7_8) rfl
def cc7_3 : SC := sSeq (sReg (seqI oc7_8)) sRet
@[simp] def cc7_3_ap := seq_rule (c := cc7_3) rfl
def oc7_9 : List IS := [ip 12 (pBin .eql (tg 4) (cv (.int .i64 5))),
  ip 11 (pMov (tg 12))]
@[simp] def oc7_9_ap := ops_rule (c := oc7_9) rfl
def oc7_10 : List IS := [ip 2 (pMov (cv (.int .i64 5))),
  ip 3 (pMov (cv (.int .i64 5)))]
@[simp] def oc7_10_ap := ops_rule (c := oc7_10) rfl
def cc7_4 : SC := sSeq (sReg (seqI oc7_10)) sRet
@[simp] def cc7_4_ap := seq_rule (c := cc7_4) rfl
def cc7_5 : SC := sCond (tg 11) cc7_4 sSkip
@[simp] def cc7_5_ap := cond_rule (c := cc7_5) rfl
def cc7_6 : SC := sSeq (sReg (seqI oc7_9)) cc7_5
@[simp] def cc7_6_ap := seq_rule (c := cc7_6) rfl
def cc7_7 : SC := sCond (tg 9) cc7_3 cc7_6
@[simp] def cc7_7_ap := cond_rule (c := cc7_7) rfl
def cc7_8 : SC := sSeq (sReg (seqI oc7_7)) cc7_7
@[simp] def cc7_8_ap := seq_rule (c := cc7_8) rfl
def cc7_9 : SC := sCond (tg 7) cc7_2 cc7_8
@[simp] def cc7_9_ap := cond_rule (c := cc7_9) rfl
def cc7_10 : SC := sSeq (sReg (seqI oc7_5)) cc7_9
@[simp] def cc7_10_ap := seq_rule (c := cc7_10) rfl
def cc7_11 : SC := sCond (tg 5) cc7_1 cc7_10
@[simp] def cc7_11_ap := cond_rule (c := cc7_11) rfl
def cc7_12 : SC := sSeq (sReg (seqI oc7_3)) cc7_11
@[simp] def cc7_12_ap := seq_rule (c := cc7_12) rfl
def cc7_13 : SC := sBlock 0 cc7_12
@[simp] def cc7_13_ap := block_rule (c := cc7_13) rfl
def cc7_14 : SC := sSeq (sReg (seqI oc7_2)) cc7_13
@[simp] def cc7_14_ap := seq_rule (c := cc7_14) rfl
def oc7_11 : List IS := [ip 2 (pMov (cv (.int .i64 1))),
  ip 3 (pMov (cv (.int .i64 1)))]
@[simp] def oc7_11_ap := ops_rule (c := oc7_11) rfl
def cc7_15 : SC := sSeq (sReg (seqI oc7_11)) sRet
@[simp] def cc7_15_ap := seq_rule (c := cc7_15) rfl
def cc7_16 : SC := sSeq cc7_14 cc7_15
@[simp] def cc7_16_ap := seq_rule (c := cc7_16) rfl
def cc7_17 : SC := sSeq (sReg (seqI oc7_1)) cc7_16
@[simp] def cc7_17_ap := seq_rule (c := cc7_17) rfl
def dc7 : DFn := ⟨cc7_17, 13, [.t 2, .t 3]⟩
theorem dc7_ok : fnOf Tryz.prog 41 = some dc7 := by kernel_rfl
def oc8_1 : List IS := [im 1 2 (mBox (tg 0)),
  ip 4 (pMov (cv (.int .i64 0)))]
@[simp] def oc8_1_ap := ops_rule (c := oc8_1) rfl
def oc8_2 : List IS := [ip 5 (pFaddr 3 (tg 2)),
  il 6 (tg 5) (mLoad1 (tg 5)),
  ip 7 (pBin .eql (tg 6) (cv (.int .i64 0)))]
@[simp] def oc8_2_ap := ops_rule (c := oc8_2) rfl
def oc8_3 : List IS := [ip 8 (pFaddr 2 (tg 2)),
  il 9 (tg 8) (mLoad1 (tg 8)),
  ip 4 (pMov (tg 9))]
@[simp] def oc8_3_ap := ops_rule (c := oc8_3) rfl
def cc8_1 : SC := sSeq (sReg (seqI oc8_3)) sRet
@[simp] def cc8_1_ap := seq_rule (c := cc8_1) rfl
def cc8_2 : SC := sCond (tg 7) cc8_1 sSkip
@[simp] def cc8_2_ap := cond_rule (c := cc8_2) rfl
def cc8_3 : SC := sSeq (sReg (seqI oc8_2)) cc8_2
@[simp] def cc8_3_ap := seq_rule (c := cc8_3) rfl
def oc8_4 : List DA := [⟨CI.pure (pFaddr 2 (tg 2)), (some 10), none, 0, []⟩,
  ⟨CI.load (tg 10) (mLoad1 (tg 10)), (some 11), none, 1, []⟩,
  ⟨CI.pure (pFaddr 4 (tg 2)), (some 12), none, 2, []⟩,
  ⟨CI.load (tg 12) (mLoad1 (tg 12)), (some 13), none, 3, []⟩,
  ⟨CI.pure (pMov (tg 1)), (some 14), none, 4, []⟩,
  ⟨CI.mem 3 (mCall 43 [(tg 13), (tg 14)]), (some 15), none, 5, [1]⟩,
  ⟨CI.pure (pFaddr 3 (tg 2)), (some 16), none, 6, []⟩,
  ⟨CI.load (tg 16) (mLoad1 (tg 16)), (some 17), none, 7, [5]⟩,
  ⟨CI.pure (pConvI .u64 (tg 17)), (some 18), none, 8, []⟩,
  ⟨CI.pure (pBin .rem (tg 15) (tg 18)), (some 19), none, 9, []⟩,
  ⟨CI.pure (pConvI .i64 (tg 19)), (some 20), none, 10, []⟩,
  ⟨CI.pure (pBin .add (tg 11) (tg 20)), (some 21), none, 11, []⟩,
  ⟨CI.pure (pMov (tg 21)), (some 4), none, 12, []⟩]
@[simp] def oc8_4_ap := das_rule (c := oc8_4) rfl
def cc8_4 : SC := sSeq (sAny oc8_4) sRet
@[simp] def cc8_4_ap := seq_rule (c := cc8_4) rfl
def cc8_5 : SC := sSeq cc8_3 cc8_4
@[simp] def cc8_5_ap := seq_rule (c := cc8_5) rfl
def cc8_6 : SC := sSeq (sReg (seqI oc8_1)) cc8_5
@[simp] def cc8_6_ap := seq_rule (c := cc8_6) rfl
def dc8 : DFn := ⟨cc8_6, 22, [.t 4]⟩
theorem dc8_ok : fnOf Tryz.prog 42 = some dc8 := by kernel_rfl
def od0_1 : List IS := [im 1 3 (mBox (tg 0)),
  im 1 6 (mAlloc [(.int .i64 0), (.slice none 0 0), (.int .i64 0), (.slice none 0 0)])]
@[simp] def od0_1_ap := ops_rule (c := od0_1) rfl
def od0_2 : List IS := [im 1 8 (mBslice 1 0 (rep 0 [(.int .u64 0)]) []),
  ip 9 (pFaddr 3 (tg 3)),
  il 10 (tg 9) (mLoad1 (tg 9)),
  im 3 11 (mAppend 1 8 (tg 8) (tg 10)),
  ip 7 (pMov (tg 11))]
@[simp] def od0_2_ap := ops_rule (c := od0_2) rfl
def od0_3 : List IS := [ip 12 (pMov (tg 7)),
  ip 13 (pMov (tg 1)),
  ip 14 (pMov (tg 2)),
  ip 15 (pIaddrS 1 (tg 12) (tg 13)),
  im0 3 (mStore 1 (tg 15) (tg 14))]
@[simp] def od0_3_ap := ops_rule (c := od0_3) rfl
def od0_4 : List IS := [ip 16 (pFaddr 0 (tg 3)),
  il 17 (tg 16) (mLoadN 2 (tg 16)),
  ip 18 (pFaddr 2 (tg 3)),
  il 19 (tg 18) (mLoad1 (tg 18)),
  ip 20 (pBin .add (tg 19) (cv (.int .i64 1))),
  ip 21 (pMov (tg 7)),
  ip 22 (pBuild [(.int .i64 0), (.slice none 0 0), (.int .i64 0), (.slice none 0 0)] [(0, 2, (tg 17)), (2, 1, (tg 20)), (3, 1, (tg 21))]),
  im0 3 (mStore 4 (tg 6) (tg 22))]
@[simp] def od0_4_ap := ops_rule (c := od0_4) rfl
def cd0_1 : SC := sSeq (sReg (seqI od0_4)) sRet
@[simp] def cd0_1_ap := seq_rule (c := cd0_1) rfl
def cd0_2 : SC := sSeq (sReg (seqI od0_3)) cd0_1
@[simp] def cd0_2_ap := seq_rule (c := cd0_2) rfl
def cd0_3 : SC := sSeq (sReg (seqI od0_2)) cd0_2
@[simp] def cd0_3_ap := seq_rule (c := cd0_3) rfl
def cd0_4 : SC := sSeq (sReg (seqI od0_1)) cd0_3
@[simp] def cd0_4_ap := seq_rule (c := cd0_4) rfl
def dd0 : DFn := ⟨cd0_4, 23, [.cell 6 4]⟩
theorem dd0_ok : fnOf Tryz.prog 44 = some dd0 := by kernel_rfl
def oe0_1 : List IS := [ip 4 (pMov (cv (.bool false)))]
@[simp] def oe0_1_ap := ops_rule (c := oe0_1) rfl
def oe0_2 : List IS := [ip 5 (pMov (tg 0))]
@[simp] def oe0_2_ap := ops_rule (c := oe0_2) rfl
def oe0_3 : List IS := [ip 7 (pBin .eql (tg 5) (cv (.int .i64 2))),
  ip 6 (pMov (tg 7))]
@[simp] def oe0_3_ap := ops_rule (c := oe0_3) rfl
def oe0_4 : List IS := [ip 8 (pMov (tg 1)),
  ip 9 (pBin .eql (tg 8) (cv (.int .i64 1))),
  ip 10 (pMov (tg 9)),
  gd 10 false (some 11) (ip 11 (pMov (tg 1))),
  gd 10 false (some 12) (ip 12 (pBin .eql (tg 11) (cv (.int .i64 2)))),
  ip 13 (pPick (tg 10) (cv (.bool true)) (tg 12)),
  ip 14 (pMov (tg 13)),
  gd 14 false (some 15) (ip 15 (pMov (tg 1))),
  gd 14 false (some 16) (ip 16 (pBin .eql (tg 15) (cv (.int .i64 5)))),
  ip 17 (pPick (tg 14) (cv (.bool true)) (tg 16)),
  ip 4 (pMov (tg 17))]
@[simp] def oe0_4_ap := ops_rule (c := oe0_4) rfl
def ce0_1 : SC := sSeq (sReg (seqI oe0_4)) sRet
@[simp] def ce0_1_ap := seq_rule (c := ce0_1) rfl
def oe0_5 : List IS := [ip 19 (pBin .eql (tg 5) (cv (.int .i64 3))),
  ip 18 (pMov (tg 19))]
@[simp] def oe0_5_ap := ops_rule (c := oe0_5) rfl
def oe0_6 : List IS := [ip 20 (pMov (tg 1)),
  ip 21 (pBin .eql (tg 20) (cv (.int .i64 1))),
  ip 22 (pMov (tg 21)),
  gd 22 false (some 23) (ip 23 (pMov (tg 1))),
  gd 22 false (some 24) (ip 24 (pBin .eql (tg 23) (cv (.int .i64 3)))),
  ip 25 (pPick (tg 22) (cv (.bool true)) (tg 24)),
  ip 26 (pMov (tg 25)),
  gd 26 false (some 27) (ip 27 (pMov (tg 1))),
  gd 26 false (some 28) (ip 28 (pBin .eql (tg 27) (cv (.int .i64 5)))),
  ip 29 (pPick (tg 26) (cv (.bool true)) (tg 28)),
  ip 4 (pMov (tg 29))]
@[simp] def oe0_6_ap := ops_rule (c := oe0_6) rfl
def ce0_2 : SC := sSeq (sReg (seqI oe0_6)) sRet
@[simp] def ce0_2_ap := seq_rule (c := ce0_2) rfl
def oe0_7 : List IS := [ip 31 (pBin .eql (tg 5) (cv (.int .i64 4))),
  ip 30 (pMov (tg 31))]
@[simp] def oe0_7_ap := ops_rule (c := oe0_7) rfl
def oe0_8 : List IS := [ip 32 (pBin .eql (tg 5) (cv (.int .i64 5))),
  ip 30 (pMov (tg 32))]
@[simp] def oe0_8_ap := ops_rule (c := oe0_8) rfl
def oe0_9 : List IS := [ip 33 (pBin .eql (tg 5) (cv (.int .i64 6))),
  ip 30 (pMov (tg 33))]
@[simp] def oe0_9_ap := ops_rule (c := oe0_9) rfl
def ce0_3 : SC := sCond (tg 30) sSkip (sReg (seqI oe0_9))
@[simp] def ce0_3_ap := cond_rule (c := ce0_3) rfl
def ce0_4 : SC := sSeq (sReg (seqI oe0_8)) ce0_3
@[simp] def ce0_4_ap := seq_rule (c := ce0_4) rfl
def ce0_5 : SC := sCond (tg 30) sSkip ce0_4
@[simp] def ce0_5_ap := cond_rule (c := ce0_5) rfl
def ce0_6 : SC := sSeq (sReg (seqI oe0_7)) ce0_5
@[simp] def ce0_6_ap := seq_rule (c := ce0_6) rfl
def oe0_10 : List IS := [ip 34 (pMov (tg 1)),
  ip 35 (pBin .geq (tg 34) (cv (.int .i64 1))),
  ip 36 (pMov (tg 35)),
  gd 36 true (some 37) (ip 37 (pMov (tg 1))),
  gd 36 true (some 38) (ip 38 (pBin .leq (tg 37) (cv (.int .i64 5)))),
  ip 39 (pPick (tg 36) (tg 38) (cv (.bool false))),
  ip 4 (pMov (tg 39))]
@[simp] def oe0_10_ap := ops_rule (c := oe0_10) rfl
def ce0_7 : SC := sSeq (sReg (seqI oe0_10)) sRet
@[simp] def ce0_7_ap := seq_rule (c := ce0_7) rfl
def oe0_11 : List IS := [ip 41 (pBin .eql (tg 5) (cv (.int .i64 7))),
  ip 40 (pMov (tg 41))]
@[simp] def oe0_11_ap := ops_rule (c := oe0_11) rfl
def oe0_12 : List IS := [ip 42 (pMov (tg 1)),
  ip 43 (pBin .geq (tg 42) (cv (.int .i64 2))),
  ip 44 (pMov (tg 43)),
  gd 44 true (some 45) (ip 45 (pMov (tg 1))),
  gd 44 true (some 46) (ip 46 (pBin .leq (tg 45) (cv (.int .i64 5)))),
  ip 47 (pPick (tg 44) (tg 46) (cv (.bool false))),
  ip 4 (pMov (tg 47))]
@[simp] def oe0_12_ap := ops_rule (c := oe0_12) rfl
def ce0_8 : SC := sSeq (sReg (seqI oe0_12)) sRet
@[simp] def ce0_8_ap := seq_rule (c := ce0_8) rfl
def ce0_9 : SC := sCond (tg 40) ce0_8 sSkip
@[simp] def ce0_9_ap := cond_rule (c := ce0_9) rfl
def ce0_10 : SC := sSeq (sReg (seqI oe0_11)) ce0_9
@[simp] def ce0_10_ap := seq_rule (c := ce0_10) rfl
def ce0_11 : SC := sCond (tg 30) ce0_7 ce0_10
@[simp] def ce0_11_ap := cond_rule (c := ce0_11) rfl
def ce0_12 : SC := sSeq ce0_6 ce0_11
@[simp] def ce0_12_ap := seq_rule (c := ce0_12) rfl
def ce0_13 : SC := sCond (tg 18) ce0_2 ce0_12
@[simp] def ce0_13_ap := cond_rule (c := ce0_13) rfl
def ce0_14 : SC := sSeq (sReg (seqI oe0_5)) ce0_13
@[simp] def ce0_14_ap := seq_rule (c := ce0_14) rfl
def ce0_15 : SC := sCond (tg 6) ce0_1 ce0_14
@[simp] def ce0_15_ap := cond_rule (c := ce0_15) rfl
def ce0_16 : SC := sSeq (sReg (seqI oe0_3)) ce0_15
@[simp] def ce0_16_ap := seq_rule (c := ce0_16) rfl
def ce0_17 : SC := sBlock 0 ce0_16
@[simp] def ce0_17_ap := block_rule (c := ce0_17) rfl
def ce0_18 : SC := sSeq (sReg (seqI oe0_2)) ce0_17
@[simp] def ce0_18_ap := seq_rule (c := ce0_18) rfl
def oe0_13 : List IS := [ip 48 (pMov (tg 1)),
  ip 49 (pBin .eql (tg 48) (cv (.int .i64 0))),
  ip 4 (pMov (tg 49))]
@[simp] def oe0_13_ap := ops_rule (c := oe0_13) rfl
def ce0_19 : SC := sSeq (sReg (seqI oe0_13)) sRet
@[simp] def ce0_19_ap := seq_rule (c := ce0_19) rfl
def ce0_20 : SC := sSeq ce0_18 ce0_19
@[simp] def ce0_20_ap := seq_rule (c := ce0_20) rfl
def ce0_21 : SC := sSeq (sReg (seqI oe0_1)) ce0_20
@[simp] def ce0_21_ap := seq_rule (c := ce0_21) rfl
def de0 : DFn := ⟨ce0_21, 50, [.t 4]⟩
theorem de0_ok : fnOf Tryz.prog 55 = some de0 := by kernel_rfl
def oe1_1 : List IS := [ip 2 (pMov (cv (.bool false)))]
@[simp] def oe1_1_ap := ops_rule (c := oe1_1) rfl
def oe1_2 : List IS := [ip 3 (pMov (tg 0)),
  ip 4 (pBin .eql (tg 3) (cv (.int .i64 1))),
  ip 5 (pMov (tg 4)),
  gd 5 false (some 6) (ip 6 (pMov (tg 0))),
  gd 5 false (some 7) (ip 7 (pBin .eql (tg 6) (cv (.int .i64 2)))),
  ip 8 (pPick (tg 5) (cv (.bool true)) (tg 7)),
  ip 9 (pMov (tg 8)),
  gd 9 false (some 10) (ip 10 (pMov (tg 0))),
  gd 9 false (some 11) (ip 11 (pBin .eql (tg 10) (cv (.int .i64 4)))),
  ip 12 (pPick (tg 9) (cv (.bool true)) (tg 11)),
  ip 13 (pMov (tg 12)),
  gd 13 false (some 14) (ip 14 (pMov (tg 0))),
  gd 13 false (some 15) (ip 15 (pBin .eql (tg 14) (cv (.int .i64 5)))),
  ip 16 (pPick (tg 13) (cv (.bool true)) (tg 15)),
  ip 17 (pMov (tg 16)),
  gd 17 false (some 18) (ip 18 (pMov (tg 0))),
  gd 17 false (some 19) (ip 19 (pBin .eql (tg 18) (cv (.int .i64 6)))),
  ip 20 (pPick (tg 17) (cv (.bool true)) (tg 19)),
  ip 2 (pMov (tg 20))]
@[simp] def oe1_2_ap := ops_rule (c := oe1_2) rfl
def ce1_1 : SC := sSeq (sReg (seqI oe1_2)) sRet
@[simp] def ce1_1_ap := seq_rule (c := ce1_1) rfl
def ce1_2 : SC := sSeq (sReg (seqI oe1_1)) ce1_1
@[simp] def ce1_2_ap := seq_rule (c := ce1_2) rfl
def de1 : DFn := ⟨ce1_2, 21, [.t 2]⟩
theorem de1_ok : fnOf Tryz.prog 56 = some de1 := by kernel_rfl
def oe2_1 : List IS := [ip 2 (pMov (cv (.bool false)))]
@[simp] def oe2_1_ap := ops_rule (c := oe2_1) rfl
def oe2_2 : List IS := [ip 3 (pMov (tg 0)),
  ip 4 (pBin .eql (tg 3) (cv (.int .i64 2))),
  ip 5 (pMov (tg 4)),
  gd 5 false (some 6) (ip 6 (pMov (tg 0))),
  gd 5 false (some 7) (ip 7 (pBin .eql (tg 6) (cv (.int .i64 3)))),
  ip 8 (pPick (tg 5) (cv (.bool true)) (tg 7)),
  ip 9 (pMov (tg 8)),
  gd 9 false (some 10) (ip 10 (pMov (tg 0))),
  gd 9 false (some 11) (ip 11 (pBin .eql (tg 10) (cv (.int .i64 4)))),
  ip 12 (pPick (tg 9) (cv (.bool true)) (tg 11)),
  ip 13 (pMov (tg 12)),
  gd 13 false (some 14) (ip 14 (pMov (tg 0))),
  gd 13 false (some 15) (ip 15 (pBin .eql (tg 14) (cv (.int .i64 5)))),
  ip 16 (pPick (tg 13) (cv (.bool true)) (tg 15)),
  ip 17 (pMov (tg 16)),
  gd 17 false (some 18) (ip 18 (pMov (tg 0))),
  gd 17 false (some 19) (ip 19 (pBin .eql (tg 18) (cv (.int .i64 6)))),
  ip 20 (pPick (tg 17) (cv (.bool true)) (tg 19)),
  ip 2 (pMov (tg 20))]
@[simp] def oe2_2_ap := ops_rule (c := oe2_2) rfl
def ce2_1 : SC := sSeq (sReg (seqI oe2_2)) sRet
@[simp] def ce2_1_ap := seq_rule (c := ce2_1) rfl
def ce2_2 : SC := sSeq (sReg (seqI oe2_1)) ce2_1
@[simp] def ce2_2_ap := seq_rule (c := ce2_2) rfl
def de2 : DFn := ⟨ce2_2, 21, [.t 2]⟩
theorem de2_ok : fnOf Tryz.prog 57 = some de2 := by kernel_rfl
def oe3_1 : List IS := [ip 2 (pMov (cv (.bool false)))]
@[simp] def oe3_1_ap := ops_rule (c := oe3_1) rfl
def oe3_2 : List IS := [ip 3 (pMov (cv (.int .i64 1)))]
@[simp] def oe3_2_ap := ops_rule (c := oe3_2) rfl
def oe3_3 : List IS := [ip 4 (pMov (tg 3)),
  ip 5 (pBin .leq (tg 4) (cv (.int .i64 1024)))]
@[simp] def oe3_3_ap := ops_rule (c := oe3_3) rfl
def ce3_1 : SC := sCond (tg 5) sSkip (sExit 0)
@[simp] def ce3_1_ap := cond_rule (c := ce3_1) rfl
def ce3_2 : SC := sSeq (sReg (seqI oe3_3)) ce3_1
@[simp] def ce3_2_ap := seq_rule (c := ce3_2) rfl
def oe3_4 : List IS := [ip 8 (pMov (tg 3)),
  ip 9 (pMov (tg 0)),
  ip 10 (pBin .eql (tg 8) (tg 9))]
@[simp] def oe3_4_ap := ops_rule (c := oe3_4) rfl
def oe3_5 : List IS := [ip 2 (pMov (cv (.bool true)))]
@[simp] def oe3_5_ap := ops_rule (c := oe3_5) rfl
def ce3_3 : SC := sSeq (sReg (seqI oe3_5)) sRet
@[simp] def ce3_3_ap := seq_rule (c := ce3_3) rfl
def ce3_4 : SC := sCond (tg 10) ce3_3 sSkip
@[simp] def ce3_4_ap := cond_rule (c := ce3_4) rfl
def ce3_5 : SC := sSeq (sReg (seqI oe3_4)) ce3_4
@[simp] def ce3_5_ap := seq_rule (c := ce3_5) rfl
def ce3_6 : SC := sBlock 1 ce3_5
@[simp] def ce3_6_ap := block_rule (c := ce3_6) rfl
def oe3_6 : List IS := [ip 6 (pMov (tg 3)),
  ip 7 (pBin .mul (tg 6) (cv (.int .i64 2))),
  ip 3 (pMov (tg 7))]
@[simp] def oe3_6_ap := ops_rule (c := oe3_6) rfl
def ce3_7 : SC := sSeq ce3_6 (sReg (seqI oe3_6))
@[simp] def ce3_7_ap := seq_rule (c := ce3_7) rfl
def ce3_8 : SC := sSeq ce3_2 ce3_7
@[simp] def ce3_8_ap := seq_rule (c := ce3_8) rfl
def ce3_9 : SC := sLoop ce3_8
def ce3_10 : SC := sBlock 0 ce3_9
@[simp] def ce3_10_ap := block_rule (c := ce3_10) rfl
def ce3_11 : SC := sSeq (sReg (seqI oe3_2)) ce3_10
@[simp] def ce3_11_ap := seq_rule (c := ce3_11) rfl
def oe3_7 : List IS := [ip 2 (pMov (cv (.bool false)))]
@[simp] def oe3_7_ap := ops_rule (c := oe3_7) rfl
def ce3_12 : SC := sSeq (sReg (seqI oe3_7)) sRet
@[simp] def ce3_12_ap := seq_rule (c := ce3_12) rfl
def ce3_13 : SC := sSeq ce3_11 ce3_12
@[simp] def ce3_13_ap := seq_rule (c := ce3_13) rfl
def ce3_14 : SC := sSeq (sReg (seqI oe3_1)) ce3_13
@[simp] def ce3_14_ap := seq_rule (c := ce3_14) rfl
def de3 : DFn := ⟨ce3_14, 11, [.t 2]⟩
theorem de3_ok : fnOf Tryz.prog 58 = some de3 := by kernel_rfl
end
end Go.Sx
