/- Compiled code. -/
import Derived.Test.YtblkdbffpjlkaaaGa
import Derived.Test.YtblkdbffpjlkaaaProg
import Derived.KernelRfl
set_option linter.unusedVariables false
set_option linter.unusedSimpArgs false
set_option linter.defProp false
/- Compiled code: printed by a program. -/
set_option linter.unusedVariables false
namespace Go.Sx
open Go.Dx Go.Proofs
noncomputable section
def o_v_SrcValues_1 : List IS := [ip 4 (pMov (cv (.bool false)))]
@[simp] def o_v_SrcValues_1_ap := ops_rule (c := o_v_SrcValues_1) rfl
def o_v_SrcValues_2 : List IS := [ip 10 (pMov (tg 0)),
  ip 11 (pMov (tg 1)),
  im 3 12 (mCall 9 [(tg 10), (tg 11)]),
  ip 9 (pMov (tg 12)),
  ip 13 (pExtract (tg 9) 0),
  ip 14 (pExtract (tg 9) 1),
  ip 5 (pMov (tg 13)),
  ip 6 (pMov (tg 14))]
@[simp] def o_v_SrcValues_2_ap := ops_rule (c := o_v_SrcValues_2) rfl
def o_v_SrcValues_3 : List IS := [ip 16 (pMov (tg 0)),
  ip 17 (pMov (tg 1)),
  im 3 18 (mCall 10 [(tg 16), (tg 17)]),
  ip 15 (pMov (tg 18)),
  ip 19 (pExtract (tg 15) 0),
  ip 20 (pExtract (tg 15) 1),
  ip 7 (pMov (tg 19)),
  ip 8 (pMov (tg 20))]
@[simp] def o_v_SrcValues_3_ap := ops_rule (c := o_v_SrcValues_3) rfl
def o_v_SrcValues_4 : List IS := [ip 21 (pMov (tg 5)),
  ip 22 (pMov (tg 7)),
  ip 23 (pBin .eql (tg 21) (tg 22)),
  ip 24 (pMov (tg 23)),
  gd 24 true (some 25) (ip 25 (pMov (tg 6))),
  gd 24 true (some 26) (ip 26 (pMov (tg 8))),
  gd 24 true (some 27) (ip 27 (pBin .eql (tg 25) (tg 26))),
  ip 28 (pPick (tg 24) (tg 27) (cv (.bool false))),
  ip 29 (pMov (tg 28)),
  gd 29 true (some 30) (im 3 30 (mCall 6 [])),
  ip 31 (pPick (tg 29) (tg 30) (cv (.bool false))),
  ip 4 (pMov (tg 31))]
@[simp] def o_v_SrcValues_4_ap := ops_rule (c := o_v_SrcValues_4) rfl
def c_v_SrcValues_1 : SC := sSeq (sReg (seqI o_v_SrcValues_4)) sRet
@[simp] def c_v_SrcValues_1_ap := seq_rule (c := c_v_SrcValues_1) rfl
def c_v_SrcValues_2 : SC := sSeq (sReg (seqI o_v_SrcValues_3)) c_v_SrcValues_1
@[simp] def c_v_SrcValues_2_ap := seq_rule (c := c_v_SrcValues_2) rfl
def c_v_SrcValues_3 : SC := sSeq (sReg (seqI o_v_SrcValues_2)) c_v_SrcValues_2
@[simp] def c_v_SrcValues_3_ap := seq_rule (c := c_v_SrcValues_3) rfl
def c_v_SrcValues_4 : SC := sSeq (sReg (seqI o_v_SrcValues_1)) c_v_SrcValues_3
@[simp] def c_v_SrcValues_4_ap := seq_rule (c := c_v_SrcValues_4) rfl
def d_v_SrcValues : DFn := ⟨c_v_SrcValues_4, 32, [.t 4]⟩
theorem d_v_SrcValues_ok : fnOf Try.prog 4 = some d_v_SrcValues := by kernel_rfl
def o_src_Value_1 : List IS := [ip 4 (pMov (cv (.int .u64 0))),
  ip 5 (pMov (cv (.int .i64 0)))]
@[simp] def o_src_Value_1_ap := ops_rule (c := o_src_Value_1) rfl
def o_src_Value_2 : List IS := [ip 6 (pMov (tg 1)),
  ip 7 (pLen (tg 6)),
  ip 8 (pBin .gtr (tg 7) (cv (.int .i64 24))),
  ip 9 (pMov (tg 8)),
  gd 9 false (some 10) (ip 10 (pMov (tg 1))),
  gd 9 false (some 11) (ip 11 (pLen (tg 10))),
  gd 9 false (some 12) (ip 12 (pMov (tg 0))),
  gd 9 false (some 13) (ip 13 (pBuild [(.int .i64 0), (.int .i64 0), (.int .i64 0), (.int .i64 0), (.slice none 0 0), (.slice none 0 0), (.slice none 0 0), (.int .i64 0), (.int .i64 0), (.int .i64 0), (.int .i64 0)] [(0, 1, (cv (.int .i64 8))), (5, 1, (tg 12))])),
  gd 9 false (some 14) (im 1 14 (mBslice 11 1 (rep 1 [(.int .i64 0), (.int .i64 0), (.int .i64 0), (.int .i64 0), (.slice none 0 0), (.slice none 0 0), (.slice none 0 0), (.int .i64 0), (.int .i64 0), (.int .i64 0), (.int .i64 0)]) [(0, 11, (tg 13))])),
  gd 9 false (some 15) (ip 15 (pBuild [(.int .i64 0), (.slice none 0 0)] [(0, 1, (tg 11)), (1, 1, (tg 14))])),
  gd 9 false (some 16) (im 1 16 (mBslice 2 1 (rep 1 [(.int .i64 0), (.slice none 0 0)]) [(0, 2, (tg 15))])),
  gd 9 false (some 17) (ip 17 (pBuild [(.int .i64 0), (.slice none 0 0)] [(1, 1, (tg 16))])),
  gd 9 false (some 18) (im 3 18 (mCall 21 [(tg 17)])),
  gd 9 false (some 19) (ip 19 (pUn .not (tg 18))),
  ip 20 (pPick (tg 9) (cv (.bool true)) (tg 19))]
@[simp] def o_src_Value_2_ap := ops_rule (c := o_src_Value_2) rfl
def o_src_Value_3 : List IS := [ip 4 (pMov (cv (.int .u64 0))),
  ip 5 (pMov (cv (.int .i64 1)))]
@[simp] def o_src_Value_3_ap := ops_rule (c := o_src_Value_3) rfl
def c_src_Value_1 : SC := sSeq (sReg (seqI o_src_Value_3)) sRet
@[simp] def c_src_Value_1_ap := seq_rule (c := c_src_Value_1) rfl
def c_src_Value_2 : SC := sCond (tg 20) c_src_Value_1 sSkip
@[simp] def c_src_Value_2_ap := cond_rule (c := c_src_Value_2) rfl
def c_src_Value_3 : SC := sSeq (sReg (seqI o_src_Value_2)) c_src_Value_2
@[simp] def c_src_Value_3_ap := seq_rule (c := c_src_Value_3) rfl
def o_src_Value_4 : List IS := [ip 21 (pMov (tg 0)),
  ip 22 (pMov (tg 1)),
  im 3 23 (mCall 22 [(tg 21), (tg 22)]),
  ip 4 (pMov (tg 23)),
  ip 5 (pMov (cv (.int .i64 0)))]
@[simp] def o_src_Value_4_ap := ops_rule (c := o_src_Value_4) rfl
def c_src_Value_4 : SC := sSeq (sReg (seqI o_src_Value_4)) sRet
@[simp] def c_src_Value_4_ap := seq_rule (c := c_src_Value_4) rfl
def c_src_Value_5 : SC := sSeq c_src_Value_3 c_src_Value_4
@[simp] def c_src_Value_5_ap := seq_rule (c := c_src_Value_5) rfl
def c_src_Value_6 : SC := sSeq (sReg (seqI o_src_Value_1)) c_src_Value_5
@[simp] def c_src_Value_6_ap := seq_rule (c := c_src_Value_6) rfl
def d_src_Value : DFn := ⟨c_src_Value_6, 24, [.t 4, .t 5]⟩
theorem d_src_Value_ok : fnOf Try.prog 9 = some d_src_Value := by kernel_rfl
def o_u_Value_1 : List IS := [ip 4 (pMov (cv (.int .u64 0))),
  ip 5 (pMov (cv (.int .i64 0)))]
@[simp] def o_u_Value_1_ap := ops_rule (c := o_u_Value_1) rfl
def o_u_Value_2 : List IS := [ip 6 (pMov (tg 1)),
  ip 7 (pLen (tg 6)),
  ip 8 (pBin .gtr (tg 7) (cv (.int .i64 24))),
  ip 9 (pMov (tg 8)),
  gd 9 false (some 10) (ip 10 (pMov (tg 0))),
  gd 9 false (some 11) (ip 11 (pMov (tg 1))),
  gd 9 false (some 12) (ip 12 (pLen (tg 11))),
  gd 9 false (some 13) (im 3 13 (mCall 23 [(tg 10), (tg 12)])),
  gd 9 false (some 14) (ip 14 (pUn .not (tg 13))),
  ip 15 (pPick (tg 9) (cv (.bool true)) (tg 14))]
@[simp] def o_u_Value_2_ap := ops_rule (c := o_u_Value_2) rfl
def o_u_Value_3 : List IS := [ip 4 (pMov (cv (.int .u64 0))),
  ip 5 (pMov (cv (.int .i64 1)))]
@[simp] def o_u_Value_3_ap := ops_rule (c := o_u_Value_3) rfl
def c_u_Value_1 : SC := sSeq (sReg (seqI o_u_Value_3)) sRet
@[simp] def c_u_Value_1_ap := seq_rule (c := c_u_Value_1) rfl
def c_u_Value_2 : SC := sCond (tg 15) c_u_Value_1 sSkip
@[simp] def c_u_Value_2_ap := cond_rule (c := c_u_Value_2) rfl
def c_u_Value_3 : SC := sSeq (sReg (seqI o_u_Value_2)) c_u_Value_2
@[simp] def c_u_Value_3_ap := seq_rule (c := c_u_Value_3) rfl
def o_u_Value_4 : List IS := [ip 16 (pMov (tg 0)),
  ip 17 (pMov (tg 1)),
  im 3 18 (mCall 24 [(tg 16), (tg 17)]),
  ip 4 (pMov (tg 18)),
  ip 5 (pMov (cv (.int .i64 0)))]
@[simp] def o_u_Value_4_ap := ops_rule (c := o_u_Value_4) rfl
def c_u_Value_4 : SC := sSeq (sReg (seqI o_u_Value_4)) sRet
@[simp] def c_u_Value_4_ap := seq_rule (c := c_u_Value_4) rfl
def c_u_Value_5 : SC := sSeq c_u_Value_3 c_u_Value_4
@[simp] def c_u_Value_5_ap := seq_rule (c := c_u_Value_5) rfl
def c_u_Value_6 : SC := sSeq (sReg (seqI o_u_Value_1)) c_u_Value_5
@[simp] def c_u_Value_6_ap := seq_rule (c := c_u_Value_6) rfl
def d_u_Value : DFn := ⟨c_u_Value_6, 19, [.t 4, .t 5]⟩
theorem d_u_Value_ok : fnOf Try.prog 10 = some d_u_Value := by kernel_rfl
def o_k_Whole_1 : List IS := [im 1 1 (mBox (tg 0)),
  ip 2 (pMov (cv (.bool false)))]
@[simp] def o_k_Whole_1_ap := ops_rule (c := o_k_Whole_1) rfl
def o_k_Whole_2 : List IS := [ip 7 (pFaddr 0 (tg 1)),
  il 8 (tg 7) (mLoad1 (tg 7)),
  ip 9 (pBin .lss (tg 8) (cv (.int .i64 0))),
  ip 10 (pMov (tg 9)),
  gd 10 false (some 11) (ip 11 (pFaddr 0 (tg 1))),
  gd 10 false (some 12) (il 12 (tg 11) (mLoad1 (tg 11))),
  gd 10 false (some 13) (ip 13 (pBin .gtr (tg 12) (cv (.int .i64 4096)))),
  ip 14 (pPick (tg 10) (cv (.bool true)) (tg 13)),
  ip 15 (pMov (tg 14)),
  gd 15 false (some 16) (ip 16 (pFaddr 1 (tg 1))),
  gd 15 false (some 17) (il 17 (tg 16) (mLoad1 (tg 16))),
  gd 15 false (some 18) (ip 18 (pLen (tg 17))),
  gd 15 false (some 19) (ip 19 (pBin .gtr (tg 18) (cv (.int .i64 64)))),
  ip 20 (pPick (tg 15) (cv (.bool true)) (tg 19))]
@[simp] def o_k_Whole_2_ap := ops_rule (c := o_k_Whole_2) rfl
def o_k_Whole_3 : List IS := [ip 2 (pMov (cv (.bool false)))]
@[simp] def o_k_Whole_3_ap := ops_rule (c := o_k_Whole_3) rfl
def c_k_Whole_1 : SC := sSeq (sReg (seqI o_k_Whole_3)) sRet
@[simp] def c_k_Whole_1_ap := seq_rule (c := c_k_Whole_1) rfl
def c_k_Whole_2 : SC := sCond (tg 20) c_k_Whole_1 sSkip
@[simp] def c_k_Whole_2_ap := cond_rule (c := c_k_Whole_2) rfl
def c_k_Whole_3 : SC := sSeq (sReg (seqI o_k_Whole_2)) c_k_Whole_2
@[simp] def c_k_Whole_3_ap := seq_rule (c := c_k_Whole_3) rfl
def o_k_Whole_4 : List IS := [ip 21 (pFaddr 1 (tg 1)),
  il 22 (tg 21) (mLoad1 (tg 21)),
  ip 23 (pLen (tg 22)),
  ip 24 (pMov (cv (.int .i64 0)))]
@[simp] def o_k_Whole_4_ap := ops_rule (c := o_k_Whole_4) rfl
def o_k_Whole_5 : List IS := [ip 25 (pBin .lss (tg 24) (tg 23))]
@[simp] def o_k_Whole_5_ap := ops_rule (c := o_k_Whole_5) rfl
def c_k_Whole_4 : SC := sCond (tg 25) sSkip (sExit 0)
@[simp] def c_k_Whole_4_ap := cond_rule (c := c_k_Whole_4) rfl
def o_k_Whole_6 : List IS := [ip 26 (pIaddrS 2 (tg 22) (tg 24)),
  il 27 (tg 26) (mLoadN 2 (tg 26)),
  im 1 4 (mAlloc [(.int .i64 0), (.slice none 0 0)]),
  im0 3 (mStore 2 (tg 4) (tg 27))]
@[simp] def o_k_Whole_6_ap := ops_rule (c := o_k_Whole_6) rfl
def o_k_Whole_7 : List IS := [ip 28 (pFaddr 0 (tg 4)),
  il 29 (tg 28) (mLoad1 (tg 28)),
  ip 30 (pBin .lss (tg 29) (cv (.int .i64 0))),
  ip 31 (pMov (tg 30)),
  gd 31 false (some 32) (ip 32 (pFaddr 0 (tg 4))),
  gd 31 false (some 33) (il 33 (tg 32) (mLoad1 (tg 32))),
  gd 31 false (some 34) (ip 34 (pBin .gtr (tg 33) (cv (.int .i64 24)))),
  ip 35 (pPick (tg 31) (cv (.bool true)) (tg 34)),
  ip 36 (pMov (tg 35)),
  gd 36 false (some 37) (ip 37 (pFaddr 1 (tg 4))),
  gd 36 false (some 38) (il 38 (tg 37) (mLoad1 (tg 37))),
  gd 36 false (some 39) (ip 39 (pLen (tg 38))),
  gd 36 false (some 40) (ip 40 (pBin .gtr (tg 39) (cv (.int .i64 65536)))),
  ip 41 (pPick (tg 36) (cv (.bool true)) (tg 40))]
@[simp] def o_k_Whole_7_ap := ops_rule (c := o_k_Whole_7) rfl
def o_k_Whole_8 : List IS := [ip 2 (pMov (cv (.bool false)))]
@[simp] def o_k_Whole_8_ap := ops_rule (c := o_k_Whole_8) rfl
def c_k_Whole_5 : SC := sSeq (sReg (seqI o_k_Whole_8)) sRet
@[simp] def c_k_Whole_5_ap := seq_rule (c := c_k_Whole_5) rfl
def c_k_Whole_6 : SC := sCond (tg 41) c_k_Whole_5 sSkip
@[simp] def c_k_Whole_6_ap := cond_rule (c := c_k_Whole_6) rfl
def c_k_Whole_7 : SC := sSeq (sReg (seqI o_k_Whole_7)) c_k_Whole_6
@[simp] def c_k_Whole_7_ap := seq_rule (c := c_k_Whole_7) rfl
def o_k_Whole_9 : List IS := [ip 42 (pFaddr 1 (tg 4)),
  il 43 (tg 42) (mLoad1 (tg 42)),
  ip 44 (pLen (tg 43)),
  ip 45 (pMov (cv (.int .i64 0)))]
@[simp] def o_k_Whole_9_ap := ops_rule (c := o_k_Whole_9) rfl
def o_k_Whole_10 : List IS := [ip 46 (pBin .lss (tg 45) (tg 44))]
@[simp] def o_k_Whole_10_ap := ops_rule (c := o_k_Whole_10) rfl
def c_k_Whole_8 : SC := sCond (tg 46) sSkip (sExit 2)
@[simp] def c_k_Whole_8_ap := cond_rule (c := c_k_Whole_8) rfl
def o_k_Whole_11 : List IS := [ip 47 (pIaddrS 11 (tg 43) (tg 45)),
  il 48 (tg 47) (mLoadN 11 (tg 47)),
  im 1 6 (mAlloc [(.int .i64 0), (.int .i64 0), (.int .i64 0), (.int .i64 0), (.slice none 0 0), (.slice none 0 0), (.slice none 0 0), (.int .i64 0), (.int .i64 0), (.int .i64 0), (.int .i64 0)]),
  im0 3 (mStore 11 (tg 6) (tg 48))]
@[simp] def o_k_Whole_11_ap := ops_rule (c := o_k_Whole_11) rfl
def o_k_Whole_12 : List IS := [il 49 (tg 6) (mLoadN 11 (tg 6)),
  il 50 (tg 1) (mLoadN 2 (tg 1)),
  il 51 (tg 4) (mLoadN 2 (tg 4)),
  im 3 52 (mCall 40 [(tg 49), (tg 50), (tg 51)]),
  ip 53 (pUn .not (tg 52))]
@[simp] def o_k_Whole_12_ap := ops_rule (c := o_k_Whole_12) rfl
def o_k_Whole_13 : List IS := [ip 2 (pMov (cv (.bool false)))]
@[simp] def o_k_Whole_13_ap := ops_rule (c := o_k_Whole_13) rfl
def c_k_Whole_9 : SC := sSeq (sReg (seqI o_k_Whole_13)) sRet
@[simp] def c_k_Whole_9_ap := seq_rule (c := c_k_Whole_9) rfl
def c_k_Whole_10 : SC := sCond (tg 53) c_k_Whole_9 sSkip
@[simp] def c_k_Whole_10_ap := cond_rule (c := c_k_Whole_10) rfl
def c_k_Whole_11 : SC := sSeq (sReg (seqI o_k_Whole_12)) c_k_Whole_10
@[simp] def c_k_Whole_11_ap := seq_rule (c := c_k_Whole_11) rfl
def c_k_Whole_12 : SC := sSeq (sReg (seqI o_k_Whole_11)) c_k_Whole_11
@[simp] def c_k_Whole_12_ap := seq_rule (c := c_k_Whole_12) rfl
def c_k_Whole_13 : SC := sBlock 3 c_k_Whole_12
@[simp] def c_k_Whole_13_ap := block_rule (c := c_k_Whole_13) rfl
def o_k_Whole_14 : List IS := [ip 54 (pBin .add (tg 45) (cv (.int .i64 1))),
  ip 45 (pMov (tg 54))]
@[simp] def o_k_Whole_14_ap := ops_rule (c := o_k_Whole_14) rfl
def c_k_Whole_14 : SC := sSeq c_k_Whole_13 (sReg (seqI o_k_Whole_14))
@[simp] def c_k_Whole_14_ap := seq_rule (c := c_k_Whole_14) rfl
def c_k_Whole_15 : SC := sSeq c_k_Whole_8 c_k_Whole_14
@[simp] def c_k_Whole_15_ap := seq_rule (c := c_k_Whole_15) rfl
def c_k_Whole_16 : SC := sSeq (sReg (seqI o_k_Whole_10)) c_k_Whole_15
@[simp] def c_k_Whole_16_ap := seq_rule (c := c_k_Whole_16) rfl
def c_k_Whole_17 : SC := sLoop c_k_Whole_16
def c_k_Whole_18 : SC := sBlock 2 c_k_Whole_17
@[simp] def c_k_Whole_18_ap := block_rule (c := c_k_Whole_18) rfl
def c_k_Whole_19 : SC := sSeq (sReg (seqI o_k_Whole_9)) c_k_Whole_18
@[simp] def c_k_Whole_19_ap := seq_rule (c := c_k_Whole_19) rfl
def c_k_Whole_20 : SC := sSeq c_k_Whole_7 c_k_Whole_19
@[simp] def c_k_Whole_20_ap := seq_rule (c := c_k_Whole_20) rfl
def c_k_Whole_21 : SC := sSeq (sReg (seqI o_k_Whole_6)) c_k_Whole_20
@[simp] def c_k_Whole_21_ap := seq_rule (c := c_k_Whole_21) rfl
def c_k_Whole_22 : SC := sBlock 1 c_k_Whole_21
@[simp] def c_k_Whole_22_ap := block_rule (c := c_k_Whole_22) rfl
def o_k_Whole_15 : List IS := [ip 55 (pBin .add (tg 24) (cv (.int .i64 1))),
  ip 24 (pMov (tg 55))]
@[simp] def o_k_Whole_15_ap := ops_rule (c := o_k_Whole_15) rfl
def c_k_Whole_23 : SC := sSeq c_k_Whole_22 (sReg (seqI o_k_Whole_15))
@[simp] def c_k_Whole_23_ap := seq_rule (c := c_k_Whole_23) rfl
def c_k_Whole_24 : SC := sSeq c_k_Whole_4 c_k_Whole_23
@[simp] def c_k_Whole_24_ap := seq_rule (c := c_k_Whole_24) rfl
def c_k_Whole_25 : SC := sSeq (sReg (seqI o_k_Whole_5)) c_k_Whole_24
@[simp] def c_k_Whole_25_ap := seq_rule (c := c_k_Whole_25) rfl
def c_k_Whole_26 : SC := sLoop c_k_Whole_25
def c_k_Whole_27 : SC := sBlock 0 c_k_Whole_26
@[simp] def c_k_Whole_27_ap := block_rule (c := c_k_Whole_27) rfl
def c_k_Whole_28 : SC := sSeq (sReg (seqI o_k_Whole_4)) c_k_Whole_27
@[simp] def c_k_Whole_28_ap := seq_rule (c := c_k_Whole_28) rfl
def o_k_Whole_16 : List IS := [ip 2 (pMov (cv (.bool true)))]
@[simp] def o_k_Whole_16_ap := ops_rule (c := o_k_Whole_16) rfl
def c_k_Whole_29 : SC := sSeq (sReg (seqI o_k_Whole_16)) sRet
@[simp] def c_k_Whole_29_ap := seq_rule (c := c_k_Whole_29) rfl
def c_k_Whole_30 : SC := sSeq c_k_Whole_28 c_k_Whole_29
@[simp] def c_k_Whole_30_ap := seq_rule (c := c_k_Whole_30) rfl
def c_k_Whole_31 : SC := sSeq c_k_Whole_3 c_k_Whole_30
@[simp] def c_k_Whole_31_ap := seq_rule (c := c_k_Whole_31) rfl
def c_k_Whole_32 : SC := sSeq (sReg (seqI o_k_Whole_1)) c_k_Whole_31
@[simp] def c_k_Whole_32_ap := seq_rule (c := c_k_Whole_32) rfl
def d_k_Whole : DFn := ⟨c_k_Whole_32, 56, [.t 2]⟩
theorem d_k_Whole_ok : fnOf Try.prog 21 = some d_k_Whole := by kernel_rfl
def o_src_value_1 : List IS := [ip 4 (pMov (cv (.int .u64 0)))]
@[simp] def o_src_value_1_ap := ops_rule (c := o_src_value_1) rfl
def o_src_value_2 : List IS := [ip 8 (pMov (tg 0)),
  ip 9 (pLen (tg 8)),
  im 1 10 (mMkslice 1 8 [(.int .u64 0)] (tg 9) (tg 9)),
  ip 5 (pMov (tg 10))]
@[simp] def o_src_value_2_ap := ops_rule (c := o_src_value_2) rfl
def o_src_value_3 : List IS := [ip 11 (pMov (tg 0)),
  ip 12 (pLen (tg 11)),
  ip 13 (pMov (cv (.int .i64 0)))]
@[simp] def o_src_value_3_ap := ops_rule (c := o_src_value_3) rfl
def o_src_value_4 : List IS := [ip 14 (pBin .lss (tg 13) (tg 12))]
@[simp] def o_src_value_4_ap := ops_rule (c := o_src_value_4) rfl
def c_src_value_1 : SC := sCond (tg 14) sSkip (sExit 0)
@[simp] def c_src_value_1_ap := cond_rule (c := c_src_value_1) rfl
def o_src_value_5 : List IS := [ip 15 (pMov (tg 13)),
  ip 16 (pIaddrS 4 (tg 11) (tg 13)),
  il 17 (tg 16) (mLoadN 4 (tg 16)),
  im 1 7 (mAlloc [(.int .i64 0), (.int .u64 0), (.int .i64 0), (.int .i64 0)]),
  ip 6 (pMov (tg 15)),
  im0 3 (mStore 4 (tg 7) (tg 17))]
@[simp] def o_src_value_5_ap := ops_rule (c := o_src_value_5) rfl
def o_src_value_6 : List IS := [ip 35 (pFaddr 0 (tg 7)),
  il 36 (tg 35) (mLoad1 (tg 35)),
  ip 37 (pBin .eql (tg 36) (cv (.int .i64 1))),
  ip 34 (pMov (tg 37))]
@[simp] def o_src_value_6_ap := ops_rule (c := o_src_value_6) rfl
def o_src_value_7 : List IS := [ip 38 (pMov (tg 5)),
  ip 39 (pMov (tg 6)),
  ip 40 (pFaddr 1 (tg 7)),
  il 41 (tg 40) (mLoad1 (tg 40)),
  ip 42 (pIaddrS 1 (tg 38) (tg 39)),
  im0 3 (mStore 1 (tg 42) (tg 41))]
@[simp] def o_src_value_7_ap := ops_rule (c := o_src_value_7) rfl
def o_src_value_8 : List IS := [ip 44 (pFaddr 0 (tg 7)),
  il 45 (tg 44) (mLoad1 (tg 44)),
  ip 46 (pBin .eql (tg 45) (cv (.int .i64 2))),
  ip 43 (pMov (tg 46))]
@[simp] def o_src_value_8_ap := ops_rule (c := o_src_value_8) rfl
def o_src_value_9 : List IS := [ip 47 (pMov (tg 5)),
  ip 48 (pMov (tg 6)),
  ip 49 (pMov (tg 1)),
  ip 50 (pFaddr 1 (tg 7)),
  il 51 (tg 50) (mLoad1 (tg 50)),
  ip 52 (pIaddrS 1 (tg 49) (tg 51)),
  il 53 (tg 52) (mLoad1 (tg 52)),
  ip 54 (pIaddrS 1 (tg 47) (tg 48)),
  im0 3 (mStore 1 (tg 54) (tg 53))]
@[simp] def o_src_value_9_ap := ops_rule (c := o_src_value_9) rfl
def o_src_value_10 : List IS := [ip 56 (pFaddr 0 (tg 7)),
  il 57 (tg 56) (mLoad1 (tg 56)),
  ip 58 (pBin .leq (tg 57) (cv (.int .i64 5))),
  ip 55 (pMov (tg 58))]
@[simp] def o_src_value_10_ap := ops_rule (c := o_src_value_10) rfl
def o_src_value_11 : List DA := [⟨CI.pure (pMov (tg 5)), (some 59), none, 0, []⟩,
  ⟨CI.pure (pMov (tg 6)), (some 60), none, 1, []⟩,
  ⟨CI.pure (pFaddr 0 (tg 7)), (some 61), none, 2, []⟩,
  ⟨CI.load (tg 61) (mLoad1 (tg 61)), (some 62), none, 3, []⟩,
  ⟨CI.pure (pMov (tg 5)), (some 63), none, 4, []⟩,
  ⟨CI.pure (pFaddr 2 (tg 7)), (some 64), none, 5, []⟩,
  ⟨CI.load (tg 64) (mLoad1 (tg 64)), (some 65), none, 6, []⟩,
  ⟨CI.pure (pIaddrS 1 (tg 63) (tg 65)), (some 66), none, 7, []⟩,
  ⟨CI.load (tg 66) (mLoad1 (tg 66)), (some 67), none, 8, []⟩,
  ⟨CI.mem 3 (mCall 41 [(tg 62), (tg 67)]), (some 68), none, 9, []⟩,
  ⟨CI.pure (pIaddrS 1 (tg 59) (tg 60)), (some 69), none, 10, []⟩,
  ⟨CI.mem 3 (mStore 1 (tg 69) (tg 68)), none, none, 11, []⟩]
@[simp] def o_src_value_11_ap := das_rule (c := o_src_value_11) rfl
def o_src_value_12 : List DA := [⟨CI.pure (pMov (tg 5)), (some 18), none, 0, []⟩,
  ⟨CI.pure (pMov (tg 6)), (some 19), none, 1, []⟩,
  ⟨CI.pure (pFaddr 0 (tg 7)), (some 20), none, 2, []⟩,
  ⟨CI.load (tg 20) (mLoad1 (tg 20)), (some 21), none, 3, []⟩,
  ⟨CI.pure (pMov (tg 5)), (some 22), none, 4, []⟩,
  ⟨CI.pure (pFaddr 2 (tg 7)), (some 23), none, 5, []⟩,
  ⟨CI.load (tg 23) (mLoad1 (tg 23)), (some 24), none, 6, []⟩,
  ⟨CI.pure (pIaddrS 1 (tg 22) (tg 24)), (some 25), none, 7, []⟩,
  ⟨CI.load (tg 25) (mLoad1 (tg 25)), (some 26), none, 8, []⟩,
  ⟨CI.pure (pMov (tg 5)), (some 27), none, 9, []⟩,
  ⟨CI.pure (pFaddr 3 (tg 7)), (some 28), none, 10, []⟩,
  ⟨CI.load (tg 28) (mLoad1 (tg 28)), (some 29), none, 11, []⟩,
  ⟨CI.pure (pIaddrS 1 (tg 27) (tg 29)), (some 30), none, 12, []⟩,
  ⟨CI.load (tg 30) (mLoad1 (tg 30)), (some 31), none, 13, []⟩,
  ⟨CI.mem 3 (mCall 42 [(tg 21), (tg 26), (tg 31)]), (some 32), none, 14, []⟩,
  ⟨CI.pure (pIaddrS 1 (tg 18) (tg 19)), (some 33), none, 15, []⟩,
  ⟨CI.mem 3 (mStore 1 (tg 33) (tg 32)), none, none, 16, []⟩]
@[simp] def o_src_value_12_ap := das_rule (c := o_src_value_12) rfl
def c_src_value_2 : SC := sCond (tg 55) (sAny o_src_value_11) (sAny o_src_value_12)
@[simp] def c_src_value_2_ap := cond_rule (c := c_src_value_2) rfl
def c_src_value_3 : SC := sSeq (sReg (seqI o_src_value_10)) c_src_value_2
@[simp] def c_src_value_3_ap := seq_rule (c := c_src_value_3) rfl
def c_src_value_4 : SC := sCond (tg 43) (sReg (seqI o_src_value_9)) c_src_value_3
@[simp] def c_src_value_4_ap := cond_rule (c := c_src_value_4) rfl
def c_src_value_5 : SC := sSeq (sReg (seqI o_src_value_8)) c_src_value_4
@[simp] def c_src_value_5_ap := seq_rule (c := c_src_value_5) rfl
def c_src_value_6 : SC := sCond (tg 34) (sReg (seqI o_src_value_7)) c_src_value_5
@[simp] def c_src_value_6_ap := cond_rule (c := c_src_value_6) rfl
def c_src_value_7 : SC := sSeq (sReg (seqI o_src_value_6)) c_src_value_6
@[simp] def c_src_value_7_ap := seq_rule (c := c_src_value_7) rfl
def c_src_value_8 : SC := sBlock 2 c_src_value_7
@[simp] def c_src_value_8_ap := block_rule (c := c_src_value_8) rfl
def c_src_value_9 : SC := sSeq (sReg (seqI o_src_value_5)) c_src_value_8
@[simp] def c_src_value_9_ap := seq_rule (c := c_src_value_9) rfl
def c_src_value_10 : SC := sBlock 1 c_src_value_9
@[simp] def c_src_value_10_ap := block_rule (c := c_src_value_10) rfl
def o_src_value_13 : List IS := [ip 70 (pBin .add (tg 13) (cv (.int .i64 1))),
  ip 13 (pMov (tg 70))]
@[simp] def o_src_value_13_ap := ops_rule (c := o_src_value_13) rfl
def c_src_value_11 : SC := sSeq c_src_value_10 (sReg (seqI o_src_value_13))
@[simp] def c_src_value_11_ap := seq_rule (c := c_src_value_11) rfl
def c_src_value_12 : SC := sSeq c_src_value_1 c_src_value_11
@[simp] def c_src_value_12_ap := seq_rule (c := c_src_value_12) rfl
def c_src_value_13 : SC := sSeq (sReg (seqI o_src_value_4)) c_src_value_12
@[simp] def c_src_value_13_ap := seq_rule (c := c_src_value_13) rfl
def c_src_value_14 : SC := sLoop c_src_value_13
def c_src_value_15 : SC := sBlock 0 c_src_value_14
@[simp] def c_src_value_15_ap := block_rule (c := c_src_value_15) rfl
def c_src_value_16 : SC := sSeq (sReg (seqI o_src_value_3)) c_src_value_15
@[simp] def c_src_value_16_ap := seq_rule (c := c_src_value_16) rfl
def o_src_value_14 : List IS := [ip 71 (pMov (tg 5)),
  ip 72 (pMov (tg 5)),
  ip 73 (pLen (tg 72)),
  ip 74 (pBin .sub (tg 73) (cv (.int .i64 1))),
  ip 75 (pIaddrS 1 (tg 71) (tg 74)),
  il 76 (tg 75) (mLoad1 (tg 75)),
  ip 4 (pMov (tg 76))]
@[simp] def o_src_value_14_ap := ops_rule (c := o_src_value_14) rfl
def c_src_value_17 : SC := sSeq (sReg (seqI o_src_value_14)) sRet
@[simp] def c_src_value_17_ap := seq_rule (c := c_src_value_17) rfl
def c_src_value_18 : SC := sSeq c_src_value_16 c_src_value_17
@[simp] def c_src_value_18_ap := seq_rule (c := c_src_value_18) rfl
def c_src_value_19 : SC := sSeq (sReg (seqI o_src_value_2)) c_src_value_18
@[simp] def c_src_value_19_ap := seq_rule (c := c_src_value_19) rfl
def c_src_value_20 : SC := sSeq (sReg (seqI o_src_value_1)) c_src_value_19
@[simp] def c_src_value_20_ap := seq_rule (c := c_src_value_20) rfl
def d_src_value : DFn := ⟨c_src_value_20, 77, [.t 4]⟩
theorem d_src_value_ok : fnOf Try.prog 22 = some d_src_value := by kernel_rfl
def o_q_Expression_1 : List IS := [ip 4 (pMov (cv (.bool false)))]
@[simp] def o_q_Expression_1_ap := ops_rule (c := o_q_Expression_1) rfl
def o_q_Expression_2 : List IS := [ip 9 (pMov (tg 0)),
  ip 10 (pLen (tg 9)),
  ip 11 (pBin .eql (tg 10) (cv (.int .i64 0))),
  ip 12 (pMov (tg 11)),
  gd 12 false (some 13) (ip 13 (pMov (tg 0))),
  gd 12 false (some 14) (ip 14 (pLen (tg 13))),
  gd 12 false (some 15) (ip 15 (pBin .gtr (tg 14) (cv (.int .i64 65536)))),
  ip 16 (pPick (tg 12) (cv (.bool true)) (tg 15))]
@[simp] def o_q_Expression_2_ap := ops_rule (c := o_q_Expression_2) rfl
def o_q_Expression_3 : List IS := [ip 4 (pMov (cv (.bool false)))]
@[simp] def o_q_Expression_3_ap := ops_rule (c := o_q_Expression_3) rfl
def c_q_Expression_1 : SC := sSeq (sReg (seqI o_q_Expression_3)) sRet
@[simp] def c_q_Expression_1_ap := seq_rule (c := c_q_Expression_1) rfl
def c_q_Expression_2 : SC := sCond (tg 16) c_q_Expression_1 sSkip
@[simp] def c_q_Expression_2_ap := cond_rule (c := c_q_Expression_2) rfl
def c_q_Expression_3 : SC := sSeq (sReg (seqI o_q_Expression_2)) c_q_Expression_2
@[simp] def c_q_Expression_3_ap := seq_rule (c := c_q_Expression_3) rfl
def o_q_Expression_4 : List IS := [ip 17 (pMov (tg 0)),
  ip 18 (pLen (tg 17)),
  im 1 19 (mMkslice 1 1 [(.bool false)] (tg 18) (tg 18)),
  ip 5 (pMov (tg 19))]
@[simp] def o_q_Expression_4_ap := ops_rule (c := o_q_Expression_4) rfl
def o_q_Expression_5 : List IS := [ip 6 (pMov (cv (.int .i64 0)))]
@[simp] def o_q_Expression_5_ap := ops_rule (c := o_q_Expression_5) rfl
def o_q_Expression_6 : List IS := [ip 20 (pMov (tg 6)),
  ip 21 (pMov (tg 0)),
  ip 22 (pLen (tg 21)),
  ip 23 (pBin .lss (tg 20) (tg 22))]
@[simp] def o_q_Expression_6_ap := ops_rule (c := o_q_Expression_6) rfl
def c_q_Expression_4 : SC := sCond (tg 23) sSkip (sExit 0)
@[simp] def c_q_Expression_4_ap := cond_rule (c := c_q_Expression_4) rfl
def c_q_Expression_5 : SC := sSeq (sReg (seqI o_q_Expression_6)) c_q_Expression_4
@[simp] def c_q_Expression_5_ap := seq_rule (c := c_q_Expression_5) rfl
def o_q_Expression_7 : List IS := [ip 26 (pMov (tg 0)),
  ip 27 (pMov (tg 6)),
  ip 28 (pIaddrS 4 (tg 26) (tg 27)),
  il 29 (tg 28) (mLoadN 4 (tg 28)),
  im 1 7 (mAlloc [(.int .i64 0), (.int .u64 0), (.int .i64 0), (.int .i64 0)]),
  im0 3 (mStore 4 (tg 7) (tg 29))]
@[simp] def o_q_Expression_7_ap := ops_rule (c := o_q_Expression_7) rfl
def o_q_Expression_8 : List IS := [ip 30 (pFaddr 0 (tg 7)),
  il 31 (tg 30) (mLoad1 (tg 30)),
  ip 32 (pBin .eql (tg 31) (cv (.int .i64 1))),
  ip 33 (pMov (tg 32)),
  gd 33 false (some 34) (ip 34 (pFaddr 0 (tg 7))),
  gd 33 false (some 35) (il 35 (tg 34) (mLoad1 (tg 34))),
  gd 33 false (some 36) (ip 36 (pBin .eql (tg 35) (cv (.int .i64 2)))),
  ip 37 (pPick (tg 33) (cv (.bool true)) (tg 36))]
@[simp] def o_q_Expression_8_ap := ops_rule (c := o_q_Expression_8) rfl
def o_q_Expression_9 : List IS := [ip 38 (pFaddr 2 (tg 7)),
  il 39 (tg 38) (mLoad1 (tg 38)),
  ip 40 (pBin .neq (tg 39) (cv (.int .i64 0))),
  ip 41 (pMov (tg 40)),
  gd 41 false (some 42) (ip 42 (pFaddr 3 (tg 7))),
  gd 41 false (some 43) (il 43 (tg 42) (mLoad1 (tg 42))),
  gd 41 false (some 44) (ip 44 (pBin .neq (tg 43) (cv (.int .i64 0)))),
  ip 45 (pPick (tg 41) (cv (.bool true)) (tg 44)),
  ip 46 (pMov (tg 45)),
  gd 46 false (some 47) (ip 47 (pFaddr 0 (tg 7))),
  gd 46 false (some 48) (il 48 (tg 47) (mLoad1 (tg 47))),
  gd 46 false (some 49) (ip 49 (pBin .eql (tg 48) (cv (.int .i64 2)))),
  gd 46 false (some 50) (ip 50 (pMov (tg 49))),
  gd 50 true (some 51) (ip 51 (pFaddr 1 (tg 7))),
  gd 50 true (some 52) (il 52 (tg 51) (mLoad1 (tg 51))),
  gd 50 true (some 53) (ip 53 (pMov (tg 1))),
  gd 50 true (some 54) (ip 54 (pConvI .u64 (tg 53))),
  gd 50 true (some 55) (ip 55 (pBin .geq (tg 52) (tg 54))),
  gd 46 false (some 56) (ip 56 (pPick (tg 50) (tg 55) (cv (.bool false)))),
  ip 57 (pPick (tg 46) (cv (.bool true)) (tg 56))]
@[simp] def o_q_Expression_9_ap := ops_rule (c := o_q_Expression_9) rfl
def o_q_Expression_10 : List IS := [ip 4 (pMov (cv (.bool false)))]
@[simp] def o_q_Expression_10_ap := ops_rule (c := o_q_Expression_10) rfl
def c_q_Expression_6 : SC := sSeq (sReg (seqI o_q_Expression_10)) sRet
@[simp] def c_q_Expression_6_ap := seq_rule (c := c_q_Expression_6) rfl
def c_q_Expression_7 : SC := sCond (tg 57) c_q_Expression_6 sSkip
@[simp] def c_q_Expression_7_ap := cond_rule (c := c_q_Expression_7) rfl
def c_q_Expression_8 : SC := sSeq (sReg (seqI o_q_Expression_9)) c_q_Expression_7
@[simp] def c_q_Expression_8_ap := seq_rule (c := c_q_Expression_8) rfl
def c_q_Expression_9 : SC := sSeq c_q_Expression_8 (sExit 1)
@[simp] def c_q_Expression_9_ap := seq_rule (c := c_q_Expression_9) rfl
def c_q_Expression_10 : SC := sCond (tg 37) c_q_Expression_9 sSkip
@[simp] def c_q_Expression_10_ap := cond_rule (c := c_q_Expression_10) rfl
def c_q_Expression_11 : SC := sSeq (sReg (seqI o_q_Expression_8)) c_q_Expression_10
@[simp] def c_q_Expression_11_ap := seq_rule (c := c_q_Expression_11) rfl
def o_q_Expression_11 : List IS := [ip 58 (pFaddr 0 (tg 7)),
  il 59 (tg 58) (mLoad1 (tg 58)),
  ip 60 (pBin .lss (tg 59) (cv (.int .i64 1))),
  ip 61 (pMov (tg 60)),
  gd 61 false (some 62) (ip 62 (pFaddr 0 (tg 7))),
  gd 61 false (some 63) (il 63 (tg 62) (mLoad1 (tg 62))),
  gd 61 false (some 64) (ip 64 (pBin .gtr (tg 63) (cv (.int .i64 19)))),
  ip 65 (pPick (tg 61) (cv (.bool true)) (tg 64)),
  ip 66 (pMov (tg 65)),
  gd 66 false (some 67) (ip 67 (pFaddr 1 (tg 7))),
  gd 66 false (some 68) (il 68 (tg 67) (mLoad1 (tg 67))),
  gd 66 false (some 69) (ip 69 (pBin .neq (tg 68) (cv (.int .u64 0)))),
  ip 70 (pPick (tg 66) (cv (.bool true)) (tg 69)),
  ip 71 (pMov (tg 70)),
  gd 71 false (some 72) (ip 72 (pFaddr 2 (tg 7))),
  gd 71 false (some 73) (il 73 (tg 72) (mLoad1 (tg 72))),
  gd 71 false (some 74) (ip 74 (pBin .lss (tg 73) (cv (.int .i64 0)))),
  ip 75 (pPick (tg 71) (cv (.bool true)) (tg 74)),
  ip 76 (pMov (tg 75)),
  gd 76 false (some 77) (ip 77 (pFaddr 2 (tg 7))),
  gd 76 false (some 78) (il 78 (tg 77) (mLoad1 (tg 77))),
  gd 76 false (some 79) (ip 79 (pMov (tg 6))),
  gd 76 false (some 80) (ip 80 (pBin .geq (tg 78) (tg 79))),
  ip 81 (pPick (tg 76) (cv (.bool true)) (tg 80)),
  ip 82 (pMov (tg 81)),
  gd 82 false (some 83) (ip 83 (pMov (tg 5))),
  gd 82 false (some 84) (ip 84 (pFaddr 2 (tg 7))),
  gd 82 false (some 85) (il 85 (tg 84) (mLoad1 (tg 84))),
  gd 82 false (some 86) (ip 86 (pIaddrS 1 (tg 83) (tg 85))),
  gd 82 false (some 87) (il 87 (tg 86) (mLoad1 (tg 86))),
  ip 88 (pPick (tg 82) (cv (.bool true)) (tg 87))]
@[simp] def o_q_Expression_11_ap := ops_rule (c := o_q_Expression_11) rfl
def o_q_Expression_12 : List IS := [ip 4 (pMov (cv (.bool false)))]
@[simp] def o_q_Expression_12_ap := ops_rule (c := o_q_Expression_12) rfl
def c_q_Expression_12 : SC := sSeq (sReg (seqI o_q_Expression_12)) sRet
@[simp] def c_q_Expression_12_ap := seq_rule (c := c_q_Expression_12) rfl
def c_q_Expression_13 : SC := sCond (tg 88) c_q_Expression_12 sSkip
@[simp] def c_q_Expression_13_ap := cond_rule (c := c_q_Expression_13) rfl
def c_q_Expression_14 : SC := sSeq (sReg (seqI o_q_Expression_11)) c_q_Expression_13
@[simp] def c_q_Expression_14_ap := seq_rule (c := c_q_Expression_14) rfl
def o_q_Expression_13 : List IS := [ip 89 (pMov (tg 5)),
  ip 90 (pFaddr 2 (tg 7)),
  il 91 (tg 90) (mLoad1 (tg 90)),
  ip 92 (pIaddrS 1 (tg 89) (tg 91)),
  im0 3 (mStore 1 (tg 92) (cv (.bool true)))]
@[simp] def o_q_Expression_13_ap := ops_rule (c := o_q_Expression_13) rfl
def o_q_Expression_14 : List IS := [ip 93 (pFaddr 0 (tg 7)),
  il 94 (tg 93) (mLoad1 (tg 93)),
  ip 95 (pBin .leq (tg 94) (cv (.int .i64 5)))]
@[simp] def o_q_Expression_14_ap := ops_rule (c := o_q_Expression_14) rfl
def o_q_Expression_15 : List IS := [ip 96 (pFaddr 3 (tg 7)),
  il 97 (tg 96) (mLoad1 (tg 96)),
  ip 98 (pBin .neq (tg 97) (cv (.int .i64 0)))]
@[simp] def o_q_Expression_15_ap := ops_rule (c := o_q_Expression_15) rfl
def o_q_Expression_16 : List IS := [ip 4 (pMov (cv (.bool false)))]
@[simp] def o_q_Expression_16_ap := ops_rule (c := o_q_Expression_16) rfl
def c_q_Expression_15 : SC := sSeq (sReg (seqI o_q_Expression_16)) sRet
@[simp] def c_q_Expression_15_ap := seq_rule (c := c_q_Expression_15) rfl
def c_q_Expression_16 : SC := sCond (tg 98) c_q_Expression_15 sSkip
@[simp] def c_q_Expression_16_ap := cond_rule (c := c_q_Expression_16) rfl
def c_q_Expression_17 : SC := sSeq (sReg (seqI o_q_Expression_15)) c_q_Expression_16
@[simp] def c_q_Expression_17_ap := seq_rule (c := c_q_Expression_17) rfl
def c_q_Expression_18 : SC := sSeq c_q_Expression_17 (sExit 1)
@[simp] def c_q_Expression_18_ap := seq_rule (c := c_q_Expression_18) rfl
def c_q_Expression_19 : SC := sCond (tg 95) c_q_Expression_18 sSkip
@[simp] def c_q_Expression_19_ap := cond_rule (c := c_q_Expression_19) rfl
def c_q_Expression_20 : SC := sSeq (sReg (seqI o_q_Expression_14)) c_q_Expression_19
@[simp] def c_q_Expression_20_ap := seq_rule (c := c_q_Expression_20) rfl
def o_q_Expression_17 : List IS := [ip 99 (pFaddr 3 (tg 7)),
  il 100 (tg 99) (mLoad1 (tg 99)),
  ip 101 (pBin .lss (tg 100) (cv (.int .i64 0))),
  ip 102 (pMov (tg 101)),
  gd 102 false (some 103) (ip 103 (pFaddr 3 (tg 7))),
  gd 102 false (some 104) (il 104 (tg 103) (mLoad1 (tg 103))),
  gd 102 false (some 105) (ip 105 (pMov (tg 6))),
  gd 102 false (some 106) (ip 106 (pBin .geq (tg 104) (tg 105))),
  ip 107 (pPick (tg 102) (cv (.bool true)) (tg 106)),
  ip 108 (pMov (tg 107)),
  gd 108 false (some 109) (ip 109 (pMov (tg 5))),
  gd 108 false (some 110) (ip 110 (pFaddr 3 (tg 7))),
  gd 108 false (some 111) (il 111 (tg 110) (mLoad1 (tg 110))),
  gd 108 false (some 112) (ip 112 (pIaddrS 1 (tg 109) (tg 111))),
  gd 108 false (some 113) (il 113 (tg 112) (mLoad1 (tg 112))),
  ip 114 (pPick (tg 108) (cv (.bool true)) (tg 113))]
@[simp] def o_q_Expression_17_ap := ops_rule (c := o_q_Expression_17) rfl
def o_q_Expression_18 : List IS := [ip 4 (pMov (cv (.bool false)))]
@[simp] def o_q_Expression_18_ap := ops_rule (c := o_q_Expression_18) rfl
def c_q_Expression_21 : SC := sSeq (sReg (seqI o_q_Expression_18)) sRet
@[simp] def c_q_Expression_21_ap := seq_rule (c := c_q_Expression_21) rfl
def c_q_Expression_22 : SC := sCond (tg 114) c_q_Expression_21 sSkip
@[simp] def c_q_Expression_22_ap := cond_rule (c := c_q_Expression_22) rfl
def c_q_Expression_23 : SC := sSeq (sReg (seqI o_q_Expression_17)) c_q_Expression_22
@[simp] def c_q_Expression_23_ap := seq_rule (c := c_q_Expression_23) rfl
def o_q_Expression_19 : List IS := [ip 115 (pMov (tg 5)),
  ip 116 (pFaddr 3 (tg 7)),
  il 117 (tg 116) (mLoad1 (tg 116)),
  ip 118 (pIaddrS 1 (tg 115) (tg 117)),
  im0 3 (mStore 1 (tg 118) (cv (.bool true)))]
@[simp] def o_q_Expression_19_ap := ops_rule (c := o_q_Expression_19) rfl
def c_q_Expression_24 : SC := sSeq c_q_Expression_23 (sReg (seqI o_q_Expression_19))
@[simp] def c_q_Expression_24_ap := seq_rule (c := c_q_Expression_24) rfl
def c_q_Expression_25 : SC := sSeq c_q_Expression_20 c_q_Expression_24
@[simp] def c_q_Expression_25_ap := seq_rule (c := c_q_Expression_25) rfl
def c_q_Expression_26 : SC := sSeq (sReg (seqI o_q_Expression_13)) c_q_Expression_25
@[simp] def c_q_Expression_26_ap := seq_rule (c := c_q_Expression_26) rfl
def c_q_Expression_27 : SC := sSeq c_q_Expression_14 c_q_Expression_26
@[simp] def c_q_Expression_27_ap := seq_rule (c := c_q_Expression_27) rfl
def c_q_Expression_28 : SC := sSeq c_q_Expression_11 c_q_Expression_27
@[simp] def c_q_Expression_28_ap := seq_rule (c := c_q_Expression_28) rfl
def c_q_Expression_29 : SC := sSeq (sReg (seqI o_q_Expression_7)) c_q_Expression_28
@[simp] def c_q_Expression_29_ap := seq_rule (c := c_q_Expression_29) rfl
def c_q_Expression_30 : SC := sBlock 1 c_q_Expression_29
@[simp] def c_q_Expression_30_ap := block_rule (c := c_q_Expression_30) rfl
def o_q_Expression_20 : List IS := [ip 24 (pMov (tg 6)),
  ip 25 (pBin .add (tg 24) (cv (.int .i64 1))),
  ip 6 (pMov (tg 25))]
@[simp] def o_q_Expression_20_ap := ops_rule (c := o_q_Expression_20) rfl
def c_q_Expression_31 : SC := sSeq c_q_Expression_30 (sReg (seqI o_q_Expression_20))
@[simp] def c_q_Expression_31_ap := seq_rule (c := c_q_Expression_31) rfl
def c_q_Expression_32 : SC := sSeq c_q_Expression_5 c_q_Expression_31
@[simp] def c_q_Expression_32_ap := seq_rule (c := c_q_Expression_32) rfl
def c_q_Expression_33 : SC := sLoop c_q_Expression_32
def c_q_Expression_34 : SC := sBlock 0 c_q_Expression_33
@[simp] def c_q_Expression_34_ap := block_rule (c := c_q_Expression_34) rfl
def c_q_Expression_35 : SC := sSeq (sReg (seqI o_q_Expression_5)) c_q_Expression_34
@[simp] def c_q_Expression_35_ap := seq_rule (c := c_q_Expression_35) rfl
def o_q_Expression_21 : List IS := [ip 8 (pMov (cv (.int .i64 0)))]
@[simp] def o_q_Expression_21_ap := ops_rule (c := o_q_Expression_21) rfl
def o_q_Expression_22 : List IS := [ip 119 (pMov (tg 8)),
  ip 120 (pMov (tg 0)),
  ip 121 (pLen (tg 120)),
  ip 122 (pBin .sub (tg 121) (cv (.int .i64 1))),
  ip 123 (pBin .lss (tg 119) (tg 122))]
@[simp] def o_q_Expression_22_ap := ops_rule (c := o_q_Expression_22) rfl
def c_q_Expression_36 : SC := sCond (tg 123) sSkip (sExit 2)
@[simp] def c_q_Expression_36_ap := cond_rule (c := c_q_Expression_36) rfl
def c_q_Expression_37 : SC := sSeq (sReg (seqI o_q_Expression_22)) c_q_Expression_36
@[simp] def c_q_Expression_37_ap := seq_rule (c := c_q_Expression_37) rfl
def o_q_Expression_23 : List IS := [ip 126 (pMov (tg 5)),
  ip 127 (pMov (tg 8)),
  ip 128 (pIaddrS 1 (tg 126) (tg 127)),
  il 129 (tg 128) (mLoad1 (tg 128)),
  ip 130 (pUn .not (tg 129))]
@[simp] def o_q_Expression_23_ap := ops_rule (c := o_q_Expression_23) rfl
def o_q_Expression_24 : List IS := [ip 4 (pMov (cv (.bool false)))]
@[simp] def o_q_Expression_24_ap := ops_rule (c := o_q_Expression_24) rfl
def c_q_Expression_38 : SC := sSeq (sReg (seqI o_q_Expression_24)) sRet
@[simp] def c_q_Expression_38_ap := seq_rule (c := c_q_Expression_38) rfl
def c_q_Expression_39 : SC := sCond (tg 130) c_q_Expression_38 sSkip
@[simp] def c_q_Expression_39_ap := cond_rule (c := c_q_Expression_39) rfl
def c_q_Expression_40 : SC := sSeq (sReg (seqI o_q_Expression_23)) c_q_Expression_39
@[simp] def c_q_Expression_40_ap := seq_rule (c := c_q_Expression_40) rfl
def c_q_Expression_41 : SC := sBlock 3 c_q_Expression_40
@[simp] def c_q_Expression_41_ap := block_rule (c := c_q_Expression_41) rfl
def o_q_Expression_25 : List IS := [ip 124 (pMov (tg 8)),
  ip 125 (pBin .add (tg 124) (cv (.int .i64 1))),
  ip 8 (pMov (tg 125))]
@[simp] def o_q_Expression_25_ap := ops_rule (c := o_q_Expression_25) rfl
def c_q_Expression_42 : SC := sSeq c_q_Expression_41 (sReg (seqI o_q_Expression_25))
@[simp] def c_q_Expression_42_ap := seq_rule (c := c_q_Expression_42) rfl
def c_q_Expression_43 : SC := sSeq c_q_Expression_37 c_q_Expression_42
@[simp] def c_q_Expression_43_ap := seq_rule (c := c_q_Expression_43) rfl
def c_q_Expression_44 : SC := sLoop c_q_Expression_43
def c_q_Expression_45 : SC := sBlock 2 c_q_Expression_44
@[simp] def c_q_Expression_45_ap := block_rule (c := c_q_Expression_45) rfl
def c_q_Expression_46 : SC := sSeq (sReg (seqI o_q_Expression_21)) c_q_Expression_45
@[simp] def c_q_Expression_46_ap := seq_rule (c := c_q_Expression_46) rfl
def o_q_Expression_26 : List IS := [ip 4 (pMov (cv (.bool true)))]
@[simp] def o_q_Expression_26_ap := ops_rule (c := o_q_Expression_26) rfl
def c_q_Expression_47 : SC := sSeq (sReg (seqI o_q_Expression_26)) sRet
@[simp] def c_q_Expression_47_ap := seq_rule (c := c_q_Expression_47) rfl
def c_q_Expression_48 : SC := sSeq c_q_Expression_46 c_q_Expression_47
@[simp] def c_q_Expression_48_ap := seq_rule (c := c_q_Expression_48) rfl
def c_q_Expression_49 : SC := sSeq c_q_Expression_35 c_q_Expression_48
@[simp] def c_q_Expression_49_ap := seq_rule (c := c_q_Expression_49) rfl
def c_q_Expression_50 : SC := sSeq (sReg (seqI o_q_Expression_4)) c_q_Expression_49
@[simp] def c_q_Expression_50_ap := seq_rule (c := c_q_Expression_50) rfl
def c_q_Expression_51 : SC := sSeq c_q_Expression_3 c_q_Expression_50
@[simp] def c_q_Expression_51_ap := seq_rule (c := c_q_Expression_51) rfl
def c_q_Expression_52 : SC := sSeq (sReg (seqI o_q_Expression_1)) c_q_Expression_51
@[simp] def c_q_Expression_52_ap := seq_rule (c := c_q_Expression_52) rfl
def d_q_Expression : DFn := ⟨c_q_Expression_52, 131, [.t 4]⟩
theorem d_q_Expression_ok : fnOf Try.prog 23 = some d_q_Expression := by kernel_rfl
def o_u_Of_1 : List IS := [ip 4 (pMov (cv (.int .u64 0)))]
@[simp] def o_u_Of_1_ap := ops_rule (c := o_u_Of_1) rfl
def o_u_Of_2 : List IS := [ip 5 (pMov (tg 0)),
  ip 6 (pMov (tg 0)),
  ip 7 (pLen (tg 6)),
  ip 8 (pBin .sub (tg 7) (cv (.int .i64 1))),
  ip 9 (pMov (tg 1)),
  im 3 10 (mCall 43 [(tg 5), (tg 8), (tg 9)]),
  ip 4 (pMov (tg 10))]
@[simp] def o_u_Of_2_ap := ops_rule (c := o_u_Of_2) rfl
def c_u_Of_1 : SC := sSeq (sReg (seqI o_u_Of_2)) sRet
@[simp] def c_u_Of_1_ap := seq_rule (c := c_u_Of_1) rfl
def c_u_Of_2 : SC := sSeq (sReg (seqI o_u_Of_1)) c_u_Of_1
@[simp] def c_u_Of_2_ap := seq_rule (c := c_u_Of_2) rfl
def d_u_Of : DFn := ⟨c_u_Of_2, 11, [.t 4]⟩
theorem d_u_Of_ok : fnOf Try.prog 24 = some d_u_Of := by kernel_rfl
def o_k_wholeAct_1 : List IS := [im 1 3 (mBox (tg 0)),
  im 1 4 (mBox (tg 1)),
  im 1 5 (mBox (tg 2)),
  ip 6 (pMov (cv (.bool false)))]
@[simp] def o_k_wholeAct_1_ap := ops_rule (c := o_k_wholeAct_1) rfl
def o_k_wholeAct_2 : List IS := [ip 8 (pFaddr 0 (tg 3)),
  il 9 (tg 8) (mLoad1 (tg 8)),
  ip 10 (pBin .lss (tg 9) (cv (.int .i64 1))),
  ip 11 (pMov (tg 10)),
  gd 11 false (some 12) (ip 12 (pFaddr 0 (tg 3))),
  gd 11 false (some 13) (il 13 (tg 12) (mLoad1 (tg 12))),
  gd 11 false (some 14) (ip 14 (pBin .gtr (tg 13) (cv (.int .i64 10)))),
  ip 15 (pPick (tg 11) (cv (.bool true)) (tg 14)),
  ip 16 (pMov (tg 15)),
  gd 16 false (some 17) (ip 17 (pFaddr 0 (tg 3))),
  gd 16 false (some 18) (il 18 (tg 17) (mLoad1 (tg 17))),
  gd 16 false (some 19) (ip 19 (pFaddr 7 (tg 3))),
  gd 16 false (some 20) (il 20 (tg 19) (mLoad1 (tg 19))),
  gd 16 false (some 21) (im 3 21 (mCall 59 [(tg 18), (tg 20)])),
  gd 16 false (some 22) (ip 22 (pUn .not (tg 21))),
  ip 23 (pPick (tg 16) (cv (.bool true)) (tg 22))]
@[simp] def o_k_wholeAct_2_ap := ops_rule (c := o_k_wholeAct_2) rfl
def o_k_wholeAct_3 : List IS := [ip 6 (pMov (cv (.bool false)))]
@[simp] def o_k_wholeAct_3_ap := ops_rule (c := o_k_wholeAct_3) rfl
def c_k_wholeAct_1 : SC := sSeq (sReg (seqI o_k_wholeAct_3)) sRet
@[simp] def c_k_wholeAct_1_ap := seq_rule (c := c_k_wholeAct_1) rfl
def c_k_wholeAct_2 : SC := sCond (tg 23) c_k_wholeAct_1 sSkip
@[simp] def c_k_wholeAct_2_ap := cond_rule (c := c_k_wholeAct_2) rfl
def c_k_wholeAct_3 : SC := sSeq (sReg (seqI o_k_wholeAct_2)) c_k_wholeAct_2
@[simp] def c_k_wholeAct_3_ap := seq_rule (c := c_k_wholeAct_3) rfl
def o_k_wholeAct_4 : List IS := [ip 24 (pFaddr 0 (tg 3)),
  il 25 (tg 24) (mLoad1 (tg 24)),
  im 3 26 (mCall 60 [(tg 25)]),
  im 1 7 (mAlloc [(.bool false), (.bool false), (.bool false), (.bool false), (.bool false)]),
  im0 3 (mStore 5 (tg 7) (tg 26))]
@[simp] def o_k_wholeAct_4_ap := ops_rule (c := o_k_wholeAct_4) rfl
def o_k_wholeAct_5 : List IS := [ip 28 (pFaddr 0 (tg 7)),
  il 29 (tg 28) (mLoad1 (tg 28)),
  ip 30 (pMov (tg 29)),
  gd 30 true (some 31) (ip 31 (pFaddr 1 (tg 3))),
  gd 30 true (some 32) (il 32 (tg 31) (mLoad1 (tg 31))),
  gd 30 true (some 33) (ip 33 (pBin .lss (tg 32) (cv (.int .i64 0)))),
  gd 30 true (some 34) (ip 34 (pMov (tg 33))),
  gd 34 false (some 35) (ip 35 (pFaddr 1 (tg 3))),
  gd 34 false (some 36) (il 36 (tg 35) (mLoad1 (tg 35))),
  gd 34 false (some 37) (ip 37 (pFaddr 0 (tg 5))),
  gd 34 false (some 38) (il 38 (tg 37) (mLoad1 (tg 37))),
  gd 34 false (some 39) (ip 39 (pBin .geq (tg 36) (tg 38))),
  gd 30 true (some 40) (ip 40 (pPick (tg 34) (cv (.bool true)) (tg 39))),
  ip 41 (pPick (tg 30) (tg 40) (cv (.bool false))),
  ip 27 (pMov (tg 41))]
@[simp] def o_k_wholeAct_5_ap := ops_rule (c := o_k_wholeAct_5) rfl
def o_k_wholeAct_6 : List IS := [ip 42 (pFaddr 0 (tg 7)),
  il 43 (tg 42) (mLoad1 (tg 42)),
  ip 44 (pUn .not (tg 43)),
  ip 45 (pMov (tg 44)),
  gd 45 true (some 46) (ip 46 (pFaddr 1 (tg 3))),
  gd 45 true (some 47) (il 47 (tg 46) (mLoad1 (tg 46))),
  gd 45 true (some 48) (ip 48 (pBin .neq (tg 47) (cv (.int .i64 0)))),
  ip 49 (pPick (tg 45) (tg 48) (cv (.bool false))),
  ip 27 (pMov (tg 49))]
@[simp] def o_k_wholeAct_6_ap := ops_rule (c := o_k_wholeAct_6) rfl
def c_k_wholeAct_4 : SC := sCond (tg 27) sSkip (sReg (seqI o_k_wholeAct_6))
@[simp] def c_k_wholeAct_4_ap := cond_rule (c := c_k_wholeAct_4) rfl
def c_k_wholeAct_5 : SC := sSeq (sReg (seqI o_k_wholeAct_5)) c_k_wholeAct_4
@[simp] def c_k_wholeAct_5_ap := seq_rule (c := c_k_wholeAct_5) rfl
def o_k_wholeAct_7 : List IS := [ip 6 (pMov (cv (.bool false)))]
@[simp] def o_k_wholeAct_7_ap := ops_rule (c := o_k_wholeAct_7) rfl
def c_k_wholeAct_6 : SC := sSeq (sReg (seqI o_k_wholeAct_7)) sRet
@[simp] def c_k_wholeAct_6_ap := seq_rule (c := c_k_wholeAct_6) rfl
def o_k_wholeAct_8 : List IS := [ip 51 (pFaddr 1 (tg 7)),
  il 52 (tg 51) (mLoad1 (tg 51)),
  ip 53 (pMov (tg 52)),
  gd 53 true (some 54) (il 54 (tg 3) (mLoadN 11 (tg 3))),
  gd 53 true (some 55) (il 55 (tg 4) (mLoadN 2 (tg 4))),
  gd 53 true (some 56) (ip 56 (pFaddr 0 (tg 5))),
  gd 53 true (some 57) (il 57 (tg 56) (mLoad1 (tg 56))),
  gd 53 true (some 58) (im 3 58 (mCall 61 [(tg 54), (tg 55), (tg 57)])),
  gd 53 true (some 59) (ip 59 (pUn .not (tg 58))),
  ip 60 (pPick (tg 53) (tg 59) (cv (.bool false))),
  ip 50 (pMov (tg 60))]
@[simp] def o_k_wholeAct_8_ap := ops_rule (c := o_k_wholeAct_8) rfl
def o_k_wholeAct_9 : List IS := [ip 61 (pFaddr 1 (tg 7)),
  il 62 (tg 61) (mLoad1 (tg 61)),
  ip 63 (pUn .not (tg 62)),
  ip 64 (pMov (tg 63)),
  gd 64 true (some 65) (ip 65 (pFaddr 2 (tg 3))),
  gd 64 true (some 66) (il 66 (tg 65) (mLoad1 (tg 65))),
  gd 64 true (some 67) (ip 67 (pBin .neq (tg 66) (cv (.int .i64 0)))),
  gd 64 true (some 68) (ip 68 (pMov (tg 67))),
  gd 68 false (some 69) (ip 69 (pFaddr 3 (tg 3))),
  gd 68 false (some 70) (il 70 (tg 69) (mLoad1 (tg 69))),
  gd 68 false (some 71) (ip 71 (pBin .neq (tg 70) (cv (.int .i64 0)))),
  gd 64 true (some 72) (ip 72 (pPick (tg 68) (cv (.bool true)) (tg 71))),
  gd 64 true (some 73) (ip 73 (pMov (tg 72))),
  gd 73 false (some 74) (ip 74 (pFaddr 4 (tg 3))),
  gd 73 false (some 75) (il 75 (tg 74) (mLoad1 (tg 74))),
  gd 73 false (some 76) (ip 76 (pLen (tg 75))),
  gd 73 false (some 77) (ip 77 (pBin .gtr (tg 76) (cv (.int .i64 0)))),
  gd 64 true (some 78) (ip 78 (pPick (tg 73) (cv (.bool true)) (tg 77))),
  ip 79 (pPick (tg 64) (tg 78) (cv (.bool false))),
  ip 50 (pMov (tg 79))]
@[simp] def o_k_wholeAct_9_ap := ops_rule (c := o_k_wholeAct_9) rfl
def c_k_wholeAct_7 : SC := sCond (tg 50) sSkip (sReg (seqI o_k_wholeAct_9))
@[simp] def c_k_wholeAct_7_ap := cond_rule (c := c_k_wholeAct_7) rfl
def c_k_wholeAct_8 : SC := sSeq (sReg (seqI o_k_wholeAct_8)) c_k_wholeAct_7
@[simp] def c_k_wholeAct_8_ap := seq_rule (c := c_k_wholeAct_8) rfl
def o_k_wholeAct_10 : List IS := [ip 6 (pMov (cv (.bool false)))]
@[simp] def o_k_wholeAct_10_ap := ops_rule (c := o_k_wholeAct_10) rfl
def c_k_wholeAct_9 : SC := sSeq (sReg (seqI o_k_wholeAct_10)) sRet
@[simp] def c_k_wholeAct_9_ap := seq_rule (c := c_k_wholeAct_9) rfl
def o_k_wholeAct_11 : List IS := [ip 81 (pFaddr 2 (tg 7)),
  il 82 (tg 81) (mLoad1 (tg 81)),
  ip 83 (pFaddr 5 (tg 3)),
  il 84 (tg 83) (mLoad1 (tg 83)),
  ip 85 (pLen (tg 84)),
  ip 86 (pBin .gtr (tg 85) (cv (.int .i64 0))),
  ip 87 (pEqB true (tg 82) (tg 86)),
  ip 80 (pMov (tg 87))]
@[simp] def o_k_wholeAct_11_ap := ops_rule (c := o_k_wholeAct_11) rfl
def o_k_wholeAct_12 : List IS := [ip 88 (pFaddr 3 (tg 7)),
  il 89 (tg 88) (mLoad1 (tg 88)),
  ip 90 (pFaddr 6 (tg 3)),
  il 91 (tg 90) (mLoad1 (tg 90)),
  ip 92 (pLen (tg 91)),
  ip 93 (pBin .gtr (tg 92) (cv (.int .i64 0))),
  ip 94 (pEqB true (tg 89) (tg 93)),
  ip 80 (pMov (tg 94))]
@[simp] def o_k_wholeAct_12_ap := ops_rule (c := o_k_wholeAct_12) rfl
def o_k_wholeAct_13 : List IS := [ip 95 (pFaddr 2 (tg 7)),
  il 96 (tg 95) (mLoad1 (tg 95)),
  ip 97 (pMov (tg 96)),
  gd 97 true (some 98) (ip 98 (pFaddr 5 (tg 3))),
  gd 97 true (some 99) (il 99 (tg 98) (mLoad1 (tg 98))),
  gd 97 true (some 100) (ip 100 (pFaddr 0 (tg 5))),
  gd 97 true (some 101) (il 101 (tg 100) (mLoad1 (tg 100))),
  gd 97 true (some 102) (im 3 102 (mCall 62 [(tg 99), (tg 101)])),
  gd 97 true (some 103) (ip 103 (pUn .not (tg 102))),
  ip 104 (pPick (tg 97) (tg 103) (cv (.bool false))),
  ip 80 (pMov (tg 104))]
@[simp] def o_k_wholeAct_13_ap := ops_rule (c := o_k_wholeAct_13) rfl
def o_k_wholeAct_14 : List IS := [ip 105 (pFaddr 3 (tg 7)),
  il 106 (tg 105) (mLoad1 (tg 105)),
  ip 107 (pMov (tg 106)),
  gd 107 true (some 108) (ip 108 (pFaddr 6 (tg 3))),
  gd 107 true (some 109) (il 109 (tg 108) (mLoad1 (tg 108))),
  gd 107 true (some 110) (ip 110 (pFaddr 0 (tg 5))),
  gd 107 true (some 111) (il 111 (tg 110) (mLoad1 (tg 110))),
  gd 107 true (some 112) (im 3 112 (mCall 62 [(tg 109), (tg 111)])),
  gd 107 true (some 113) (ip 113 (pUn .not (tg 112))),
  ip 114 (pPick (tg 107) (tg 113) (cv (.bool false))),
  ip 80 (pMov (tg 114))]
@[simp] def o_k_wholeAct_14_ap := ops_rule (c := o_k_wholeAct_14) rfl
def c_k_wholeAct_10 : SC := sCond (tg 80) sSkip (sReg (seqI o_k_wholeAct_14))
@[simp] def c_k_wholeAct_10_ap := cond_rule (c := c_k_wholeAct_10) rfl
def c_k_wholeAct_11 : SC := sSeq (sReg (seqI o_k_wholeAct_13)) c_k_wholeAct_10
@[simp] def c_k_wholeAct_11_ap := seq_rule (c := c_k_wholeAct_11) rfl
def c_k_wholeAct_12 : SC := sCond (tg 80) sSkip c_k_wholeAct_11
@[simp] def c_k_wholeAct_12_ap := cond_rule (c := c_k_wholeAct_12) rfl
def c_k_wholeAct_13 : SC := sSeq (sReg (seqI o_k_wholeAct_12)) c_k_wholeAct_12
@[simp] def c_k_wholeAct_13_ap := seq_rule (c := c_k_wholeAct_13) rfl
def c_k_wholeAct_14 : SC := sCond (tg 80) sSkip c_k_wholeAct_13
@[simp] def c_k_wholeAct_14_ap := cond_rule (c := c_k_wholeAct_14) rfl
def c_k_wholeAct_15 : SC := sSeq (sReg (seqI o_k_wholeAct_11)) c_k_wholeAct_14
@[simp] def c_k_wholeAct_15_ap := seq_rule (c := c_k_wholeAct_15) rfl
def o_k_wholeAct_15 : List IS := [ip 6 (pMov (cv (.bool false)))]
@[simp] def o_k_wholeAct_15_ap := ops_rule (c := o_k_wholeAct_15) rfl
def c_k_wholeAct_16 : SC := sSeq (sReg (seqI o_k_wholeAct_15)) sRet
@[simp] def c_k_wholeAct_16_ap := seq_rule (c := c_k_wholeAct_16) rfl
def o_k_wholeAct_16 : List IS := [ip 116 (pFaddr 4 (tg 7)),
  il 117 (tg 116) (mLoad1 (tg 116)),
  ip 118 (pMov (tg 117)),
  gd 118 true (some 119) (ip 119 (pFaddr 8 (tg 3))),
  gd 118 true (some 120) (il 120 (tg 119) (mLoad1 (tg 119))),
  gd 118 true (some 121) (ip 121 (pBin .lss (tg 120) (cv (.int .i64 0)))),
  gd 118 true (some 122) (ip 122 (pMov (tg 121))),
  gd 122 false (some 123) (ip 123 (pFaddr 8 (tg 3))),
  gd 122 false (some 124) (il 124 (tg 123) (mLoad1 (tg 123))),
  gd 122 false (some 125) (ip 125 (pFaddr 1 (tg 5))),
  gd 122 false (some 126) (il 126 (tg 125) (mLoad1 (tg 125))),
  gd 122 false (some 127) (ip 127 (pLen (tg 126))),
  gd 122 false (some 128) (ip 128 (pBin .gtr (tg 124) (tg 127))),
  gd 118 true (some 129) (ip 129 (pPick (tg 122) (cv (.bool true)) (tg 128))),
  ip 130 (pPick (tg 118) (tg 129) (cv (.bool false))),
  ip 115 (pMov (tg 130))]
@[simp] def o_k_wholeAct_16_ap := ops_rule (c := o_k_wholeAct_16) rfl
def o_k_wholeAct_17 : List IS := [ip 131 (pFaddr 4 (tg 7)),
  il 132 (tg 131) (mLoad1 (tg 131)),
  ip 133 (pUn .not (tg 132)),
  ip 134 (pMov (tg 133)),
  gd 134 true (some 135) (ip 135 (pFaddr 8 (tg 3))),
  gd 134 true (some 136) (il 136 (tg 135) (mLoad1 (tg 135))),
  gd 134 true (some 137) (ip 137 (pBin .neq (tg 136) (cv (.int .i64 0)))),
  ip 138 (pPick (tg 134) (tg 137) (cv (.bool false))),
  ip 115 (pMov (tg 138))]
@[simp] def o_k_wholeAct_17_ap := ops_rule (c := o_k_wholeAct_17) rfl
def c_k_wholeAct_17 : SC := sCond (tg 115) sSkip (sReg (seqI o_k_wholeAct_17))
@[simp] def c_k_wholeAct_17_ap := cond_rule (c := c_k_wholeAct_17) rfl
def c_k_wholeAct_18 : SC := sSeq (sReg (seqI o_k_wholeAct_16)) c_k_wholeAct_17
@[simp] def c_k_wholeAct_18_ap := seq_rule (c := c_k_wholeAct_18) rfl
def o_k_wholeAct_18 : List IS := [ip 6 (pMov (cv (.bool false)))]
@[simp] def o_k_wholeAct_18_ap := ops_rule (c := o_k_wholeAct_18) rfl
def c_k_wholeAct_19 : SC := sSeq (sReg (seqI o_k_wholeAct_18)) sRet
@[simp] def c_k_wholeAct_19_ap := seq_rule (c := c_k_wholeAct_19) rfl
def c_k_wholeAct_20 : SC := sCond (tg 115) c_k_wholeAct_19 sSkip
@[simp] def c_k_wholeAct_20_ap := cond_rule (c := c_k_wholeAct_20) rfl
def c_k_wholeAct_21 : SC := sSeq c_k_wholeAct_18 c_k_wholeAct_20
@[simp] def c_k_wholeAct_21_ap := seq_rule (c := c_k_wholeAct_21) rfl
def c_k_wholeAct_22 : SC := sCond (tg 80) c_k_wholeAct_16 c_k_wholeAct_21
@[simp] def c_k_wholeAct_22_ap := cond_rule (c := c_k_wholeAct_22) rfl
def c_k_wholeAct_23 : SC := sSeq c_k_wholeAct_15 c_k_wholeAct_22
@[simp] def c_k_wholeAct_23_ap := seq_rule (c := c_k_wholeAct_23) rfl
def c_k_wholeAct_24 : SC := sCond (tg 50) c_k_wholeAct_9 c_k_wholeAct_23
@[simp] def c_k_wholeAct_24_ap := cond_rule (c := c_k_wholeAct_24) rfl
def c_k_wholeAct_25 : SC := sSeq c_k_wholeAct_8 c_k_wholeAct_24
@[simp] def c_k_wholeAct_25_ap := seq_rule (c := c_k_wholeAct_25) rfl
def c_k_wholeAct_26 : SC := sCond (tg 27) c_k_wholeAct_6 c_k_wholeAct_25
@[simp] def c_k_wholeAct_26_ap := cond_rule (c := c_k_wholeAct_26) rfl
def c_k_wholeAct_27 : SC := sSeq c_k_wholeAct_5 c_k_wholeAct_26
@[simp] def c_k_wholeAct_27_ap := seq_rule (c := c_k_wholeAct_27) rfl
def c_k_wholeAct_28 : SC := sBlock 0 c_k_wholeAct_27
@[simp] def c_k_wholeAct_28_ap := block_rule (c := c_k_wholeAct_28) rfl
def o_k_wholeAct_19 : List IS := [ip 6 (pMov (cv (.bool true)))]
@[simp] def o_k_wholeAct_19_ap := ops_rule (c := o_k_wholeAct_19) rfl
def c_k_wholeAct_29 : SC := sSeq (sReg (seqI o_k_wholeAct_19)) sRet
@[simp] def c_k_wholeAct_29_ap := seq_rule (c := c_k_wholeAct_29) rfl
def c_k_wholeAct_30 : SC := sSeq c_k_wholeAct_28 c_k_wholeAct_29
@[simp] def c_k_wholeAct_30_ap := seq_rule (c := c_k_wholeAct_30) rfl
def c_k_wholeAct_31 : SC := sSeq (sReg (seqI o_k_wholeAct_4)) c_k_wholeAct_30
@[simp] def c_k_wholeAct_31_ap := seq_rule (c := c_k_wholeAct_31) rfl
def c_k_wholeAct_32 : SC := sSeq c_k_wholeAct_3 c_k_wholeAct_31
@[simp] def c_k_wholeAct_32_ap := seq_rule (c := c_k_wholeAct_32) rfl
def c_k_wholeAct_33 : SC := sSeq (sReg (seqI o_k_wholeAct_1)) c_k_wholeAct_32
@[simp] def c_k_wholeAct_33_ap := seq_rule (c := c_k_wholeAct_33) rfl
def d_k_wholeAct : DFn := ⟨c_k_wholeAct_33, 139, [.t 6]⟩
theorem d_k_wholeAct_ok : fnOf Try.prog 40 = some d_k_wholeAct := by kernel_rfl
def o_src_one_1 : List IS := [ip 4 (pMov (cv (.int .u64 0)))]
@[simp] def o_src_one_1_ap := ops_rule (c := o_src_one_1) rfl
def o_src_one_2 : List IS := [ip 5 (pMov (tg 0))]
@[simp] def o_src_one_2_ap := ops_rule (c := o_src_one_2) rfl
def o_src_one_3 : List IS := [ip 7 (pBin .eql (tg 5) (cv (.int .i64 3))),
  ip 6 (pMov (tg 7))]
@[simp] def o_src_one_3_ap := ops_rule (c := o_src_one_3) rfl
def o_src_one_4 : List IS := [ip 8 (pMov (tg 1)),
  ip 9 (pUn .neg (tg 8)),
  ip 4 (pMov (tg 9))]
@[simp] def o_src_one_4_ap := ops_rule (c := o_src_one_4) rfl
def c_src_one_1 : SC := sSeq (sReg (seqI o_src_one_4)) sRet
@[simp] def c_src_one_1_ap := seq_rule (c := c_src_one_1) rfl
def o_src_one_5 : List IS := [ip 11 (pBin .eql (tg 5) (cv (.int .i64 4))),
  ip 10 (pMov (tg 11))]
@[simp] def o_src_one_5_ap := ops_rule (c := o_src_one_5) rfl
def o_src_one_6 : List IS := [ip 12 (pMov (tg 1)),
  ip 13 (pUn .xor (tg 12)),
  ip 4 (pMov (tg 13))]
@[simp] def o_src_one_6_ap := ops_rule (c := o_src_one_6) rfl
def c_src_one_2 : SC := sSeq (sReg (seqI o_src_one_6)) sRet
@[simp] def c_src_one_2_ap := seq_rule (c := c_src_one_2) rfl
def c_src_one_3 : SC := sCond (tg 10) c_src_one_2 sSkip
@[simp] def c_src_one_3_ap := cond_rule (c := c_src_one_3) rfl
def c_src_one_4 : SC := sSeq (sReg (seqI o_src_one_5)) c_src_one_3
@[simp] def c_src_one_4_ap := seq_rule (c := c_src_one_4) rfl
def c_src_one_5 : SC := sCond (tg 6) c_src_one_1 c_src_one_4
@[simp] def c_src_one_5_ap := cond_rule (c := c_src_one_5) rfl
def c_src_one_6 : SC := sSeq (sReg (seqI o_src_one_3)) c_src_one_5
@[simp] def c_src_one_6_ap := seq_rule (c := c_src_one_6) rfl
def c_src_one_7 : SC := sBlock 0 c_src_one_6
@[simp] def c_src_one_7_ap := block_rule (c := c_src_one_7) rfl
def c_src_one_8 : SC := sSeq (sReg (seqI o_src_one_2)) c_src_one_7
@[simp] def c_src_one_8_ap := seq_rule (c := c_src_one_8) rfl
def o_src_one_7 : List IS := [ip 14 (pMov (tg 1)),
  ip 15 (pBin .eql (tg 14) (cv (.int .u64 0))),
  im 3 16 (mCall 63 [(tg 15)]),
  ip 4 (pMov (tg 16))]
@[simp] def o_src_one_7_ap := ops_rule (c := o_src_one_7) rfl
def c_src_one_9 : SC := sSeq (sReg (seqI o_src_one_7)) sRet
@[simp] def c_src_one_9_ap := seq_rule (c := c_src_one_9) rfl
def c_src_one_10 : SC := sSeq c_src_one_8 c_src_one_9
@[simp] def c_src_one_10_ap := seq_rule (c := c_src_one_10) rfl
def c_src_one_11 : SC := sSeq (sReg (seqI o_src_one_1)) c_src_one_10
@[simp] def c_src_one_11_ap := seq_rule (c := c_src_one_11) rfl
def d_src_one : DFn := ⟨c_src_one_11, 17, [.t 4]⟩
theorem d_src_one_ok : fnOf Try.prog 41 = some d_src_one := by kernel_rfl
def o_src_two_1 : List IS := [ip 6 (pMov (cv (.int .u64 0)))]
@[simp] def o_src_two_1_ap := ops_rule (c := o_src_two_1) rfl
def o_src_two_2 : List IS := [ip 7 (pMov (tg 0))]
@[simp] def o_src_two_2_ap := ops_rule (c := o_src_two_2) rfl
def o_src_two_3 : List IS := [ip 9 (pBin .eql (tg 7) (cv (.int .i64 6))),
  ip 8 (pMov (tg 9))]
@[simp] def o_src_two_3_ap := ops_rule (c := o_src_two_3) rfl
def o_src_two_4 : List IS := [ip 10 (pMov (tg 1)),
  ip 11 (pMov (tg 2)),
  ip 12 (pBin .mul (tg 10) (tg 11)),
  ip 6 (pMov (tg 12))]
@[simp] def o_src_two_4_ap := ops_rule (c := o_src_two_4) rfl
def c_src_two_1 : SC := sSeq (sReg (seqI o_src_two_4)) sRet
@[simp] def c_src_two_1_ap := seq_rule (c := c_src_two_1) rfl
def o_src_two_5 : List IS := [ip 14 (pBin .eql (tg 7) (cv (.int .i64 7))),
  ip 13 (pMov (tg 14))]
@[simp] def o_src_two_5_ap := ops_rule (c := o_src_two_5) rfl
def o_src_two_6 : List IS := [ip 15 (pMov (tg 1)),
  ip 16 (pMov (tg 2)),
  ip 17 (pBin .add (tg 15) (tg 16)),
  ip 6 (pMov (tg 17))]
@[simp] def o_src_two_6_ap := ops_rule (c := o_src_two_6) rfl
def c_src_two_2 : SC := sSeq (sReg (seqI o_src_two_6)) sRet
@[simp] def c_src_two_2_ap := seq_rule (c := c_src_two_2) rfl
def o_src_two_7 : List IS := [ip 19 (pBin .eql (tg 7) (cv (.int .i64 8))),
  ip 18 (pMov (tg 19))]
@[simp] def o_src_two_7_ap := ops_rule (c := o_src_two_7) rfl
def o_src_two_8 : List IS := [ip 20 (pMov (tg 1)),
  ip 21 (pMov (tg 2)),
  ip 22 (pBin .sub (tg 20) (tg 21)),
  ip 6 (pMov (tg 22))]
@[simp] def o_src_two_8_ap := ops_rule (c := o_src_two_8) rfl
def c_src_two_3 : SC := sSeq (sReg (seqI o_src_two_8)) sRet
@[simp] def c_src_two_3_ap := seq_rule (c := c_src_two_3) rfl
def o_src_two_9 : List IS := [ip 24 (pBin .eql (tg 7) (cv (.int .i64 9))),
  ip 23 (pMov (tg 24))]
@[simp] def o_src_two_9_ap := ops_rule (c := o_src_two_9) rfl
def o_src_two_10 : List IS := [ip 25 (pMov (tg 1)),
  ip 26 (pMov (tg 2)),
  ip 27 (pBin .and (tg 26) (cv (.int .u64 63))),
  ip 28 (pShift .shl (tg 25) (tg 27)),
  ip 6 (pMov (tg 28))]
@[simp] def o_src_two_10_ap := ops_rule (c := o_src_two_10) rfl
def c_src_two_4 : SC := sSeq (sReg (seqI o_src_two_10)) sRet
@[simp] def c_src_two_4_ap := seq_rule (c := c_src_two_4) rfl
def o_src_two_11 : List IS := [ip 30 (pBin .eql (tg 7) (cv (.int .i64 10))),
  ip 29 (pMov (tg 30))]
@[simp] def o_src_two_11_ap := ops_rule (c := o_src_two_11) rfl
def o_src_two_12 : List IS := [ip 31 (pMov (tg 1)),
  ip 32 (pMov (tg 2)),
  ip 33 (pBin .and (tg 32) (cv (.int .u64 63))),
  ip 34 (pShift .shr (tg 31) (tg 33)),
  ip 6 (pMov (tg 34))]
@[simp] def o_src_two_12_ap := ops_rule (c := o_src_two_12) rfl
def c_src_two_5 : SC := sSeq (sReg (seqI o_src_two_12)) sRet
@[simp] def c_src_two_5_ap := seq_rule (c := c_src_two_5) rfl
def o_src_two_13 : List IS := [ip 36 (pBin .eql (tg 7) (cv (.int .i64 11))),
  ip 35 (pMov (tg 36))]
@[simp] def o_src_two_13_ap := ops_rule (c := o_src_two_13) rfl
def o_src_two_14 : List IS := [ip 37 (pMov (tg 1)),
  ip 38 (pMov (tg 2)),
  ip 39 (pBin .and (tg 37) (tg 38)),
  ip 6 (pMov (tg 39))]
@[simp] def o_src_two_14_ap := ops_rule (c := o_src_two_14) rfl
def c_src_two_6 : SC := sSeq (sReg (seqI o_src_two_14)) sRet
@[simp] def c_src_two_6_ap := seq_rule (c := c_src_two_6) rfl
def o_src_two_15 : List IS := [ip 41 (pBin .eql (tg 7) (cv (.int .i64 12))),
  ip 40 (pMov (tg 41))]
@[simp] def o_src_two_15_ap := ops_rule (c := o_src_two_15) rfl
def o_src_two_16 : List IS := [ip 42 (pMov (tg 1)),
  ip 43 (pMov (tg 2)),
  ip 44 (pBin .xor (tg 42) (tg 43)),
  ip 6 (pMov (tg 44))]
@[simp] def o_src_two_16_ap := ops_rule (c := o_src_two_16) rfl
def c_src_two_7 : SC := sSeq (sReg (seqI o_src_two_16)) sRet
@[simp] def c_src_two_7_ap := seq_rule (c := c_src_two_7) rfl
def o_src_two_17 : List IS := [ip 46 (pBin .eql (tg 7) (cv (.int .i64 13))),
  ip 45 (pMov (tg 46))]
@[simp] def o_src_two_17_ap := ops_rule (c := o_src_two_17) rfl
def o_src_two_18 : List IS := [ip 47 (pMov (tg 1)),
  ip 48 (pMov (tg 2)),
  ip 49 (pBin .or (tg 47) (tg 48)),
  ip 6 (pMov (tg 49))]
@[simp] def o_src_two_18_ap := ops_rule (c := o_src_two_18) rfl
def c_src_two_8 : SC := sSeq (sReg (seqI o_src_two_18)) sRet
@[simp] def c_src_two_8_ap := seq_rule (c := c_src_two_8) rfl
def o_src_two_19 : List IS := [ip 51 (pBin .eql (tg 7) (cv (.int .i64 14))),
  ip 50 (pMov (tg 51))]
@[simp] def o_src_two_19_ap := ops_rule (c := o_src_two_19) rfl
def o_src_two_20 : List IS := [ip 52 (pMov (tg 1)),
  ip 53 (pMov (tg 2)),
  ip 54 (pBin .eql (tg 52) (tg 53)),
  im 3 55 (mCall 63 [(tg 54)]),
  ip 6 (pMov (tg 55))]
@[simp] def o_src_two_20_ap := ops_rule (c := o_src_two_20) rfl
def c_src_two_9 : SC := sSeq (sReg (seqI o_src_two_20)) sRet
@[simp] def c_src_two_9_ap := seq_rule (c := c_src_two_9) rfl
def o_src_two_21 : List IS := [ip 57 (pBin .eql (tg 7) (cv (.int .i64 15))),
  ip 56 (pMov (tg 57))]
@[simp] def o_src_two_21_ap := ops_rule (c := o_src_two_21) rfl
def o_src_two_22 : List IS := [ip 58 (pMov (tg 1)),
  ip 59 (pMov (tg 2)),
  ip 60 (pBin .neq (tg 58) (tg 59)),
  im 3 61 (mCall 63 [(tg 60)]),
  ip 6 (pMov (tg 61))]
@[simp] def o_src_two_22_ap := ops_rule (c := o_src_two_22) rfl
def c_src_two_10 : SC := sSeq (sReg (seqI o_src_two_22)) sRet
@[simp] def c_src_two_10_ap := seq_rule (c := c_src_two_10) rfl
def o_src_two_23 : List IS := [ip 63 (pBin .eql (tg 7) (cv (.int .i64 16))),
  ip 62 (pMov (tg 63))]
@[simp] def o_src_two_23_ap := ops_rule (c := o_src_two_23) rfl
def o_src_two_24 : List IS := [ip 64 (pMov (tg 1)),
  ip 65 (pMov (tg 2)),
  ip 66 (pBin .lss (tg 64) (tg 65)),
  im 3 67 (mCall 63 [(tg 66)]),
  ip 6 (pMov (tg 67))]
@[simp] def o_src_two_24_ap := ops_rule (c := o_src_two_24) rfl
def c_src_two_11 : SC := sSeq (sReg (seqI o_src_two_24)) sRet
@[simp] def c_src_two_11_ap := seq_rule (c := c_src_two_11) rfl
def o_src_two_25 : List IS := [ip 69 (pBin .eql (tg 7) (cv (.int .i64 17))),
  ip 68 (pMov (tg 69))]
@[simp] def o_src_two_25_ap := ops_rule (c := o_src_two_25) rfl
def o_src_two_26 : List IS := [ip 70 (pMov (tg 1)),
  ip 71 (pMov (tg 2)),
  ip 72 (pBin .leq (tg 70) (tg 71)),
  im 3 73 (mCall 63 [(tg 72)]),
  ip 6 (pMov (tg 73))]
@[simp] def o_src_two_26_ap := ops_rule (c := o_src_two_26) rfl
def c_src_two_12 : SC := sSeq (sReg (seqI o_src_two_26)) sRet
@[simp] def c_src_two_12_ap := seq_rule (c := c_src_two_12) rfl
def o_src_two_27 : List IS := [ip 75 (pBin .eql (tg 7) (cv (.int .i64 18))),
  ip 74 (pMov (tg 75))]
@[simp] def o_src_two_27_ap := ops_rule (c := o_src_two_27) rfl
def o_src_two_28 : List IS := [ip 76 (pMov (tg 1)),
  ip 77 (pMov (tg 2)),
  ip 78 (pBin .gtr (tg 76) (tg 77)),
  im 3 79 (mCall 63 [(tg 78)]),
  ip 6 (pMov (tg 79))]
@[simp] def o_src_two_28_ap := ops_rule (c := o_src_two_28) rfl
def c_src_two_13 : SC := sSeq (sReg (seqI o_src_two_28)) sRet
@[simp] def c_src_two_13_ap := seq_rule (c := c_src_two_13) rfl
def c_src_two_14 : SC := sCond (tg 74) c_src_two_13 sSkip
@[simp] def c_src_two_14_ap := cond_rule (c := c_src_two_14) rfl
def c_src_two_15 : SC := sSeq (sReg (seqI o_src_two_27)) c_src_two_14
@[simp] def c_src_two_15_ap := seq_rule (c := c_src_two_15) rfl
def c_src_two_16 : SC := sCond (tg 68) c_src_two_12 c_src_two_15
@[simp] def c_src_two_16_ap := cond_rule (c := c_src_two_16) rfl
def c_src_two_17 : SC := sSeq (sReg (seqI o_src_two_25)) c_src_two_16
@[simp] def c_src_two_17_ap := seq_rule (c := c_src_two_17) rfl
def c_src_two_18 : SC := sCond (tg 62) c_src_two_11 c_src_two_17
@[simp] def c_src_two_18_ap := cond_rule (c := c_src_two_18) rfl
def c_src_two_19 : SC := sSeq (sReg (seqI o_src_two_23)) c_src_two_18
@[simp] def c_src_two_19_ap := seq_rule (c := c_src_two_19) rfl
def c_src_two_20 : SC := sCond (tg 56) c_src_two_10 c_src_two_19
@[simp] def c_src_two_20_ap := cond_rule (c := c_src_two_20) rfl
def c_src_two_21 : SC := sSeq (sReg (seqI o_src_two_21)) c_src_two_20
@[simp] def c_src_two_21_ap := seq_rule (c := c_src_two_21) rfl
def c_src_two_22 : SC := sCond (tg 50) c_src_two_9 c_src_two_21
@[simp] def c_src_two_22_ap := cond_rule (c := c_src_two_22) rfl
def c_src_two_23 : SC := sSeq (sReg (seqI o_src_two_19)) c_src_two_22
@[simp] def c_src_two_23_ap := seq_rule (c := c_src_two_23) rfl
def c_src_two_24 : SC := sCond (tg 45) c_src_two_8 c_src_two_23
@[simp] def c_src_two_24_ap := cond_rule (c := c_src_two_24) rfl
def c_src_two_25 : SC := sSeq (sReg (seqI o_src_two_17)) c_src_two_24
@[simp] def c_src_two_25_ap := seq_rule (c := c_src_two_25) rfl
def c_src_two_26 : SC := sCond (tg 40) c_src_two_7 c_src_two_25
@[simp] def c_src_two_26_ap := cond_rule (c := c_src_two_26) rfl
def c_src_two_27 : SC := sSeq (sReg (seqI o_src_two_15)) c_src_two_26
@[simp] def c_src_two_27_ap := seq_rule (c := c_src_two_27) rfl
def c_src_two_28 : SC := sCond (tg 35) c_src_two_6 c_src_two_27
@[simp] def c_src_two_28_ap := cond_rule (c := c_src_two_28) rfl
def c_src_two_29 : SC := sSeq (sReg (seqI o_src_two_13)) c_src_two_28
@[simp] def c_src_two_29_ap := seq_rule (c := c_src_two_29) rfl
def c_src_two_30 : SC := sCond (tg 29) c_src_two_5 c_src_two_29
@[simp] def c_src_two_30_ap := cond_rule (c := c_src_two_30) rfl
def c_src_two_31 : SC := sSeq (sReg (seqI o_src_two_11)) c_src_two_30
@[simp] def c_src_two_31_ap := seq_rule (c := c_src_two_31) rfl
def c_src_two_32 : SC := sCond (tg 23) c_src_two_4 c_src_two_31
@[simp] def c_src_two_32_ap := cond_rule (c := c_src_two_32) rfl
def c_src_two_33 : SC := sSeq (sReg (seqI o_src_two_9)) c_src_two_32
@[simp] def c_src_two_33_ap := seq_rule (c := c_src_two_33) rfl
def c_src_two_34 : SC := sCond (tg 18) c_src_two_3 c_src_two_33
@[simp] def c_src_two_34_ap := cond_rule (c := c_src_two_34) rfl
def c_src_two_35 : SC := sSeq (sReg (seqI o_src_two_7)) c_src_two_34
@[simp] def c_src_two_35_ap := seq_rule (c := c_src_two_35) rfl
def c_src_two_36 : SC := sCond (tg 13) c_src_two_2 c_src_two_35
@[simp] def c_src_two_36_ap := cond_rule (c := c_src_two_36) rfl
def c_src_two_37 : SC := sSeq (sReg (seqI o_src_two_5)) c_src_two_36
@[simp] def c_src_two_37_ap := seq_rule (c := c_src_two_37) rfl
def c_src_two_38 : SC := sCond (tg 8) c_src_two_1 c_src_two_37
@[simp] def c_src_two_38_ap := cond_rule (c := c_src_two_38) rfl
def c_src_two_39 : SC := sSeq (sReg (seqI o_src_two_3)) c_src_two_38
@[simp] def c_src_two_39_ap := seq_rule (c := c_src_two_39) rfl
def c_src_two_40 : SC := sBlock 0 c_src_two_39
@[simp] def c_src_two_40_ap := block_rule (c := c_src_two_40) rfl
def c_src_two_41 : SC := sSeq (sReg (seqI o_src_two_2)) c_src_two_40
@[simp] def c_src_two_41_ap := seq_rule (c := c_src_two_41) rfl
def o_src_two_29 : List IS := [ip 80 (pMov (tg 1)),
  ip 81 (pMov (tg 2)),
  ip 82 (pBin .geq (tg 80) (tg 81)),
  im 3 83 (mCall 63 [(tg 82)]),
  ip 6 (pMov (tg 83))]
@[simp] def o_src_two_29_ap := ops_rule (c := o_src_two_29) rfl
def c_src_two_42 : SC := sSeq (sReg (seqI o_src_two_29)) sRet
@[simp] def c_src_two_42_ap := seq_rule (c := c_src_two_42) rfl
def c_src_two_43 : SC := sSeq c_src_two_41 c_src_two_42
@[simp] def c_src_two_43_ap := seq_rule (c := c_src_two_43) rfl
def c_src_two_44 : SC := sSeq (sReg (seqI o_src_two_1)) c_src_two_43
@[simp] def c_src_two_44_ap := seq_rule (c := c_src_two_44) rfl
def d_src_two : DFn := ⟨c_src_two_44, 84, [.t 6]⟩
theorem d_src_two_ok : fnOf Try.prog 42 = some d_src_two := by kernel_rfl
def o_u_at_1 : List IS := [ip 6 (pMov (cv (.int .u64 0)))]
@[simp] def o_u_at_1_ap := ops_rule (c := o_u_at_1) rfl
def o_u_at_2 : List IS := [ip 12 (pMov (tg 0)),
  ip 13 (pMov (tg 1)),
  ip 14 (pIaddrS 4 (tg 12) (tg 13)),
  il 15 (tg 14) (mLoadN 4 (tg 14)),
  im 1 7 (mAlloc [(.int .i64 0), (.int .u64 0), (.int .i64 0), (.int .i64 0)]),
  im0 3 (mStore 4 (tg 7) (tg 15))]
@[simp] def o_u_at_2_ap := ops_rule (c := o_u_at_2) rfl
def o_u_at_3 : List IS := [ip 16 (pFaddr 0 (tg 7)),
  il 17 (tg 16) (mLoad1 (tg 16)),
  ip 18 (pBin .eql (tg 17) (cv (.int .i64 1)))]
@[simp] def o_u_at_3_ap := ops_rule (c := o_u_at_3) rfl
def o_u_at_4 : List IS := [ip 19 (pFaddr 1 (tg 7)),
  il 20 (tg 19) (mLoad1 (tg 19)),
  ip 6 (pMov (tg 20))]
@[simp] def o_u_at_4_ap := ops_rule (c := o_u_at_4) rfl
def c_u_at_1 : SC := sSeq (sReg (seqI o_u_at_4)) sRet
@[simp] def c_u_at_1_ap := seq_rule (c := c_u_at_1) rfl
def c_u_at_2 : SC := sCond (tg 18) c_u_at_1 sSkip
@[simp] def c_u_at_2_ap := cond_rule (c := c_u_at_2) rfl
def c_u_at_3 : SC := sSeq (sReg (seqI o_u_at_3)) c_u_at_2
@[simp] def c_u_at_3_ap := seq_rule (c := c_u_at_3) rfl
def o_u_at_5 : List IS := [ip 21 (pFaddr 0 (tg 7)),
  il 22 (tg 21) (mLoad1 (tg 21)),
  ip 23 (pBin .eql (tg 22) (cv (.int .i64 2)))]
@[simp] def o_u_at_5_ap := ops_rule (c := o_u_at_5) rfl
def o_u_at_6 : List IS := [ip 24 (pMov (tg 2)),
  ip 25 (pFaddr 1 (tg 7)),
  il 26 (tg 25) (mLoad1 (tg 25)),
  ip 27 (pIaddrS 1 (tg 24) (tg 26)),
  il 28 (tg 27) (mLoad1 (tg 27)),
  ip 6 (pMov (tg 28))]
@[simp] def o_u_at_6_ap := ops_rule (c := o_u_at_6) rfl
def c_u_at_4 : SC := sSeq (sReg (seqI o_u_at_6)) sRet
@[simp] def c_u_at_4_ap := seq_rule (c := c_u_at_4) rfl
def c_u_at_5 : SC := sCond (tg 23) c_u_at_4 sSkip
@[simp] def c_u_at_5_ap := cond_rule (c := c_u_at_5) rfl
def c_u_at_6 : SC := sSeq (sReg (seqI o_u_at_5)) c_u_at_5
@[simp] def c_u_at_6_ap := seq_rule (c := c_u_at_6) rfl
def o_u_at_7 : List IS := [ip 29 (pMov (tg 0)),
  ip 30 (pFaddr 2 (tg 7)),
  il 31 (tg 30) (mLoad1 (tg 30)),
  ip 32 (pMov (tg 2)),
  im 3 33 (mCall 43 [(tg 29), (tg 31), (tg 32)]),
  ip 8 (pMov (tg 33))]
@[simp] def o_u_at_7_ap := ops_rule (c := o_u_at_7) rfl
def o_u_at_8 : List IS := [ip 34 (pFaddr 0 (tg 7)),
  il 35 (tg 34) (mLoad1 (tg 34))]
@[simp] def o_u_at_8_ap := ops_rule (c := o_u_at_8) rfl
def o_u_at_9 : List IS := [ip 37 (pBin .eql (tg 35) (cv (.int .i64 3))),
  ip 36 (pMov (tg 37))]
@[simp] def o_u_at_9_ap := ops_rule (c := o_u_at_9) rfl
def o_u_at_10 : List IS := [ip 38 (pMov (tg 8)),
  ip 39 (pBin .sub (cv (.int .u64 0)) (tg 38)),
  ip 6 (pMov (tg 39))]
@[simp] def o_u_at_10_ap := ops_rule (c := o_u_at_10) rfl
def c_u_at_7 : SC := sSeq (sReg (seqI o_u_at_10)) sRet
@[simp] def c_u_at_7_ap := seq_rule (c := c_u_at_7) rfl
def o_u_at_11 : List IS := [ip 41 (pBin .eql (tg 35) (cv (.int .i64 4))),
  ip 40 (pMov (tg 41))]
@[simp] def o_u_at_11_ap := ops_rule (c := o_u_at_11) rfl
def o_u_at_12 : List IS := [ip 42 (pMov (tg 8)),
  ip 43 (pBin .sub (cv (.int .u64 18446744073709551615)) (tg 42)),
  ip 6 (pMov (tg 43))]
@[simp] def o_u_at_12_ap := ops_rule (c := o_u_at_12) rfl
def c_u_at_8 : SC := sSeq (sReg (seqI o_u_at_12)) sRet
@[simp] def c_u_at_8_ap := seq_rule (c := c_u_at_8) rfl
def o_u_at_13 : List IS := [ip 45 (pBin .eql (tg 35) (cv (.int .i64 5))),
  ip 44 (pMov (tg 45))]
@[simp] def o_u_at_13_ap := ops_rule (c := o_u_at_13) rfl
def o_u_at_14 : List IS := [ip 46 (pMov (tg 8)),
  ip 47 (pBin .eql (tg 46) (cv (.int .u64 0))),
  im 3 48 (mCall 64 [(tg 47)]),
  ip 6 (pMov (tg 48))]
@[simp] def o_u_at_14_ap := ops_rule (c := o_u_at_14) rfl
def c_u_at_9 : SC := sSeq (sReg (seqI o_u_at_14)) sRet
@[simp] def c_u_at_9_ap := seq_rule (c := c_u_at_9) rfl
def c_u_at_10 : SC := sCond (tg 44) c_u_at_9 sSkip
@[simp] def c_u_at_10_ap := cond_rule (c := c_u_at_10) rfl
def c_u_at_11 : SC := sSeq (sReg (seqI o_u_at_13)) c_u_at_10
@[simp] def c_u_at_11_ap := seq_rule (c := c_u_at_11) rfl
def c_u_at_12 : SC := sCond (tg 40) c_u_at_8 c_u_at_11
@[simp] def c_u_at_12_ap := cond_rule (c := c_u_at_12) rfl
def c_u_at_13 : SC := sSeq (sReg (seqI o_u_at_11)) c_u_at_12
@[simp] def c_u_at_13_ap := seq_rule (c := c_u_at_13) rfl
def c_u_at_14 : SC := sCond (tg 36) c_u_at_7 c_u_at_13
@[simp] def c_u_at_14_ap := cond_rule (c := c_u_at_14) rfl
def c_u_at_15 : SC := sSeq (sReg (seqI o_u_at_9)) c_u_at_14
@[simp] def c_u_at_15_ap := seq_rule (c := c_u_at_15) rfl
def c_u_at_16 : SC := sBlock 0 c_u_at_15
@[simp] def c_u_at_16_ap := block_rule (c := c_u_at_16) rfl
def c_u_at_17 : SC := sSeq (sReg (seqI o_u_at_8)) c_u_at_16
@[simp] def c_u_at_17_ap := seq_rule (c := c_u_at_17) rfl
def o_u_at_15 : List IS := [ip 49 (pMov (tg 0)),
  ip 50 (pFaddr 3 (tg 7)),
  il 51 (tg 50) (mLoad1 (tg 50)),
  ip 52 (pMov (tg 2)),
  im 3 53 (mCall 43 [(tg 49), (tg 51), (tg 52)]),
  ip 9 (pMov (tg 53))]
@[simp] def o_u_at_15_ap := ops_rule (c := o_u_at_15) rfl
def o_u_at_16 : List IS := [ip 54 (pFaddr 0 (tg 7)),
  il 55 (tg 54) (mLoad1 (tg 54))]
@[simp] def o_u_at_16_ap := ops_rule (c := o_u_at_16) rfl
def o_u_at_17 : List IS := [ip 57 (pBin .eql (tg 55) (cv (.int .i64 6))),
  ip 56 (pMov (tg 57))]
@[simp] def o_u_at_17_ap := ops_rule (c := o_u_at_17) rfl
def o_u_at_18 : List IS := [ip 58 (pMov (tg 8)),
  ip 59 (pMov (tg 9)),
  ip 60 (pBin .mul (tg 58) (tg 59)),
  ip 6 (pMov (tg 60))]
@[simp] def o_u_at_18_ap := ops_rule (c := o_u_at_18) rfl
def c_u_at_18 : SC := sSeq (sReg (seqI o_u_at_18)) sRet
@[simp] def c_u_at_18_ap := seq_rule (c := c_u_at_18) rfl
def o_u_at_19 : List IS := [ip 62 (pBin .eql (tg 55) (cv (.int .i64 7))),
  ip 61 (pMov (tg 62))]
@[simp] def o_u_at_19_ap := ops_rule (c := o_u_at_19) rfl
def o_u_at_20 : List IS := [ip 63 (pMov (tg 8)),
  ip 64 (pMov (tg 9)),
  ip 65 (pBin .add (tg 63) (tg 64)),
  ip 6 (pMov (tg 65))]
@[simp] def o_u_at_20_ap := ops_rule (c := o_u_at_20) rfl
def c_u_at_19 : SC := sSeq (sReg (seqI o_u_at_20)) sRet
@[simp] def c_u_at_19_ap := seq_rule (c := c_u_at_19) rfl
def o_u_at_21 : List IS := [ip 67 (pBin .eql (tg 55) (cv (.int .i64 8))),
  ip 66 (pMov (tg 67))]
@[simp] def o_u_at_21_ap := ops_rule (c := o_u_at_21) rfl
def o_u_at_22 : List IS := [ip 68 (pMov (tg 8)),
  ip 69 (pMov (tg 9)),
  ip 70 (pBin .sub (tg 68) (tg 69)),
  ip 6 (pMov (tg 70))]
@[simp] def o_u_at_22_ap := ops_rule (c := o_u_at_22) rfl
def c_u_at_20 : SC := sSeq (sReg (seqI o_u_at_22)) sRet
@[simp] def c_u_at_20_ap := seq_rule (c := c_u_at_20) rfl
def o_u_at_23 : List IS := [ip 72 (pBin .eql (tg 55) (cv (.int .i64 9))),
  ip 71 (pMov (tg 72))]
@[simp] def o_u_at_23_ap := ops_rule (c := o_u_at_23) rfl
def o_u_at_24 : List IS := [ip 10 (pMov (cv (.int .u64 0)))]
@[simp] def o_u_at_24_ap := ops_rule (c := o_u_at_24) rfl
def o_u_at_25 : List IS := [ip 73 (pMov (tg 10)),
  ip 74 (pMov (tg 9)),
  ip 75 (pBin .rem (tg 74) (cv (.int .u64 64))),
  ip 76 (pBin .lss (tg 73) (tg 75))]
@[simp] def o_u_at_25_ap := ops_rule (c := o_u_at_25) rfl
def c_u_at_21 : SC := sCond (tg 76) sSkip (sExit 2)
@[simp] def c_u_at_21_ap := cond_rule (c := c_u_at_21) rfl
def c_u_at_22 : SC := sSeq (sReg (seqI o_u_at_25)) c_u_at_21
@[simp] def c_u_at_22_ap := seq_rule (c := c_u_at_22) rfl
def o_u_at_26 : List IS := [ip 79 (pMov (tg 8)),
  ip 80 (pMov (tg 8)),
  ip 81 (pBin .add (tg 79) (tg 80)),
  ip 8 (pMov (tg 81))]
@[simp] def o_u_at_26_ap := ops_rule (c := o_u_at_26) rfl
def c_u_at_23 : SC := sBlock 3 (sReg (seqI o_u_at_26))
@[simp] def c_u_at_23_ap := block_rule (c := c_u_at_23) rfl
def o_u_at_27 : List IS := [ip 77 (pMov (tg 10)),
  ip 78 (pBin .add (tg 77) (cv (.int .u64 1))),
  ip 10 (pMov (tg 78))]
@[simp] def o_u_at_27_ap := ops_rule (c := o_u_at_27) rfl
def c_u_at_24 : SC := sSeq c_u_at_23 (sReg (seqI o_u_at_27))
@[simp] def c_u_at_24_ap := seq_rule (c := c_u_at_24) rfl
def c_u_at_25 : SC := sSeq c_u_at_22 c_u_at_24
@[simp] def c_u_at_25_ap := seq_rule (c := c_u_at_25) rfl
def c_u_at_26 : SC := sLoop c_u_at_25
def c_u_at_27 : SC := sBlock 2 c_u_at_26
@[simp] def c_u_at_27_ap := block_rule (c := c_u_at_27) rfl
def c_u_at_28 : SC := sSeq (sReg (seqI o_u_at_24)) c_u_at_27
@[simp] def c_u_at_28_ap := seq_rule (c := c_u_at_28) rfl
def o_u_at_28 : List IS := [ip 82 (pMov (tg 8)),
  ip 6 (pMov (tg 82))]
@[simp] def o_u_at_28_ap := ops_rule (c := o_u_at_28) rfl
def c_u_at_29 : SC := sSeq (sReg (seqI o_u_at_28)) sRet
@[simp] def c_u_at_29_ap := seq_rule (c := c_u_at_29) rfl
def c_u_at_30 : SC := sSeq c_u_at_28 c_u_at_29
@[simp] def c_u_at_30_ap := seq_rule (c := c_u_at_30) rfl
def o_u_at_29 : List IS := [ip 84 (pBin .eql (tg 55) (cv (.int .i64 10))),
  ip 83 (pMov (tg 84))]
@[simp] def o_u_at_29_ap := ops_rule (c := o_u_at_29) rfl
def o_u_at_30 : List IS := [ip 11 (pMov (cv (.int .u64 0)))]
@[simp] def o_u_at_30_ap := ops_rule (c := o_u_at_30) rfl
def o_u_at_31 : List IS := [ip 85 (pMov (tg 11)),
  ip 86 (pMov (tg 9)),
  ip 87 (pBin .rem (tg 86) (cv (.int .u64 64))),
  ip 88 (pBin .lss (tg 85) (tg 87))]
@[simp] def o_u_at_31_ap := ops_rule (c := o_u_at_31) rfl
def c_u_at_31 : SC := sCond (tg 88) sSkip (sExit 4)
@[simp] def c_u_at_31_ap := cond_rule (c := c_u_at_31) rfl
def c_u_at_32 : SC := sSeq (sReg (seqI o_u_at_31)) c_u_at_31
@[simp] def c_u_at_32_ap := seq_rule (c := c_u_at_32) rfl
def o_u_at_32 : List IS := [ip 91 (pMov (tg 8)),
  ip 92 (pBin .quo (tg 91) (cv (.int .u64 2))),
  ip 8 (pMov (tg 92))]
@[simp] def o_u_at_32_ap := ops_rule (c := o_u_at_32) rfl
def c_u_at_33 : SC := sBlock 5 (sReg (seqI o_u_at_32))
@[simp] def c_u_at_33_ap := block_rule (c := c_u_at_33) rfl
def o_u_at_33 : List IS := [ip 89 (pMov (tg 11)),
  ip 90 (pBin .add (tg 89) (cv (.int .u64 1))),
  ip 11 (pMov (tg 90))]
@[simp] def o_u_at_33_ap := ops_rule (c := o_u_at_33) rfl
def c_u_at_34 : SC := sSeq c_u_at_33 (sReg (seqI o_u_at_33))
@[simp] def c_u_at_34_ap := seq_rule (c := c_u_at_34) rfl
def c_u_at_35 : SC := sSeq c_u_at_32 c_u_at_34
@[simp] def c_u_at_35_ap := seq_rule (c := c_u_at_35) rfl
def c_u_at_36 : SC := sLoop c_u_at_35
def c_u_at_37 : SC := sBlock 4 c_u_at_36
@[simp] def c_u_at_37_ap := block_rule (c := c_u_at_37) rfl
def c_u_at_38 : SC := sSeq (sReg (seqI o_u_at_30)) c_u_at_37
@[simp] def c_u_at_38_ap := seq_rule (c := c_u_at_38) rfl
def o_u_at_34 : List IS := [ip 93 (pMov (tg 8)),
  ip 6 (pMov (tg 93))]
@[simp] def o_u_at_34_ap := ops_rule (c := o_u_at_34) rfl
def c_u_at_39 : SC := sSeq (sReg (seqI o_u_at_34)) sRet
@[simp] def c_u_at_39_ap := seq_rule (c := c_u_at_39) rfl
def c_u_at_40 : SC := sSeq c_u_at_38 c_u_at_39
@[simp] def c_u_at_40_ap := seq_rule (c := c_u_at_40) rfl
def o_u_at_35 : List IS := [ip 95 (pBin .eql (tg 55) (cv (.int .i64 11))),
  ip 94 (pMov (tg 95))]
@[simp] def o_u_at_35_ap := ops_rule (c := o_u_at_35) rfl
def o_u_at_36 : List IS := [ip 96 (pMov (tg 8)),
  ip 97 (pMov (tg 9)),
  ip 98 (pBin .and (tg 96) (tg 97)),
  ip 6 (pMov (tg 98))]
@[simp] def o_u_at_36_ap := ops_rule (c := o_u_at_36) rfl
def c_u_at_41 : SC := sSeq (sReg (seqI o_u_at_36)) sRet
@[simp] def c_u_at_41_ap := seq_rule (c := c_u_at_41) rfl
def o_u_at_37 : List IS := [ip 100 (pBin .eql (tg 55) (cv (.int .i64 12))),
  ip 99 (pMov (tg 100))]
@[simp] def o_u_at_37_ap := ops_rule (c := o_u_at_37) rfl
def o_u_at_38 : List IS := [ip 101 (pMov (tg 8)),
  ip 102 (pMov (tg 9)),
  ip 103 (pBin .xor (tg 101) (tg 102)),
  ip 6 (pMov (tg 103))]
@[simp] def o_u_at_38_ap := ops_rule (c := o_u_at_38) rfl
def c_u_at_42 : SC := sSeq (sReg (seqI o_u_at_38)) sRet
@[simp] def c_u_at_42_ap := seq_rule (c := c_u_at_42) rfl
def o_u_at_39 : List IS := [ip 105 (pBin .eql (tg 55) (cv (.int .i64 13))),
  ip 104 (pMov (tg 105))]
@[simp] def o_u_at_39_ap := ops_rule (c := o_u_at_39) rfl
def o_u_at_40 : List IS := [ip 106 (pMov (tg 8)),
  ip 107 (pMov (tg 9)),
  ip 108 (pBin .or (tg 106) (tg 107)),
  ip 6 (pMov (tg 108))]
@[simp] def o_u_at_40_ap := ops_rule (c := o_u_at_40) rfl
def c_u_at_43 : SC := sSeq (sReg (seqI o_u_at_40)) sRet
@[simp] def c_u_at_43_ap := seq_rule (c := c_u_at_43) rfl
def o_u_at_41 : List IS := [ip 110 (pBin .eql (tg 55) (cv (.int .i64 14))),
  ip 109 (pMov (tg 110))]
@[simp] def o_u_at_41_ap := ops_rule (c := o_u_at_41) rfl
def o_u_at_42 : List IS := [ip 111 (pMov (tg 8)),
  ip 112 (pMov (tg 9)),
  ip 113 (pBin .eql (tg 111) (tg 112)),
  im 3 114 (mCall 64 [(tg 113)]),
  ip 6 (pMov (tg 114))]
@[simp] def o_u_at_42_ap := ops_rule (c := o_u_at_42) rfl
def c_u_at_44 : SC := sSeq (sReg (seqI o_u_at_42)) sRet
@[simp] def c_u_at_44_ap := seq_rule (c := c_u_at_44) rfl
def o_u_at_43 : List IS := [ip 116 (pBin .eql (tg 55) (cv (.int .i64 15))),
  ip 115 (pMov (tg 116))]
@[simp] def o_u_at_43_ap := ops_rule (c := o_u_at_43) rfl
def o_u_at_44 : List IS := [ip 117 (pMov (tg 8)),
  ip 118 (pMov (tg 9)),
  ip 119 (pBin .neq (tg 117) (tg 118)),
  im 3 120 (mCall 64 [(tg 119)]),
  ip 6 (pMov (tg 120))]
@[simp] def o_u_at_44_ap := ops_rule (c := o_u_at_44) rfl
def c_u_at_45 : SC := sSeq (sReg (seqI o_u_at_44)) sRet
@[simp] def c_u_at_45_ap := seq_rule (c := c_u_at_45) rfl
def o_u_at_45 : List IS := [ip 122 (pBin .eql (tg 55) (cv (.int .i64 16))),
  ip 121 (pMov (tg 122))]
@[simp] def o_u_at_45_ap := ops_rule (c := o_u_at_45) rfl
def o_u_at_46 : List IS := [ip 123 (pMov (tg 8)),
  ip 124 (pMov (tg 9)),
  ip 125 (pBin .lss (tg 123) (tg 124)),
  im 3 126 (mCall 64 [(tg 125)]),
  ip 6 (pMov (tg 126))]
@[simp] def o_u_at_46_ap := ops_rule (c := o_u_at_46) rfl
def c_u_at_46 : SC := sSeq (sReg (seqI o_u_at_46)) sRet
@[simp] def c_u_at_46_ap := seq_rule (c := c_u_at_46) rfl
def o_u_at_47 : List IS := [ip 128 (pBin .eql (tg 55) (cv (.int .i64 17))),
  ip 127 (pMov (tg 128))]
@[simp] def o_u_at_47_ap := ops_rule (c := o_u_at_47) rfl
def o_u_at_48 : List IS := [ip 129 (pMov (tg 8)),
  ip 130 (pMov (tg 9)),
  ip 131 (pBin .leq (tg 129) (tg 130)),
  im 3 132 (mCall 64 [(tg 131)]),
  ip 6 (pMov (tg 132))]
@[simp] def o_u_at_48_ap := ops_rule (c := o_u_at_48) rfl
def c_u_at_47 : SC := sSeq (sReg (seqI o_u_at_48)) sRet
@[simp] def c_u_at_47_ap := seq_rule (c := c_u_at_47) rfl
def o_u_at_49 : List IS := [ip 134 (pBin .eql (tg 55) (cv (.int .i64 18))),
  ip 133 (pMov (tg 134))]
@[simp] def o_u_at_49_ap := ops_rule (c := o_u_at_49) rfl
def o_u_at_50 : List IS := [ip 135 (pMov (tg 9)),
  ip 136 (pMov (tg 8)),
  ip 137 (pBin .lss (tg 135) (tg 136)),
  im 3 138 (mCall 64 [(tg 137)]),
  ip 6 (pMov (tg 138))]
@[simp] def o_u_at_50_ap := ops_rule (c := o_u_at_50) rfl
def c_u_at_48 : SC := sSeq (sReg (seqI o_u_at_50)) sRet
@[simp] def c_u_at_48_ap := seq_rule (c := c_u_at_48) rfl
def c_u_at_49 : SC := sCond (tg 133) c_u_at_48 sSkip
@[simp] def c_u_at_49_ap := cond_rule (c := c_u_at_49) rfl
def c_u_at_50 : SC := sSeq (sReg (seqI o_u_at_49)) c_u_at_49
@[simp] def c_u_at_50_ap := seq_rule (c := c_u_at_50) rfl
def c_u_at_51 : SC := sCond (tg 127) c_u_at_47 c_u_at_50
@[simp] def c_u_at_51_ap := cond_rule (c := c_u_at_51) rfl
def c_u_at_52 : SC := sSeq (sReg (seqI o_u_at_47)) c_u_at_51
@[simp] def c_u_at_52_ap := seq_rule (c := c_u_at_52) rfl
def c_u_at_53 : SC := sCond (tg 121) c_u_at_46 c_u_at_52
@[simp] def c_u_at_53_ap := cond_rule (c := c_u_at_53) rfl
def c_u_at_54 : SC := sSeq (sReg (seqI o_u_at_45)) c_u_at_53
@[simp] def c_u_at_54_ap := seq_rule (c := c_u_at_54) rfl
def c_u_at_55 : SC := sCond (tg 115) c_u_at_45 c_u_at_54
@[simp] def c_u_at_55_ap := cond_rule (c := c_u_at_55) rfl
def c_u_at_56 : SC := sSeq (sReg (seqI o_u_at_43)) c_u_at_55
@[simp] def c_u_at_56_ap := seq_rule (c := c_u_at_56) rfl
def c_u_at_57 : SC := sCond (tg 109) c_u_at_44 c_u_at_56
@[simp] def c_u_at_57_ap := cond_rule (c := c_u_at_57) rfl
def c_u_at_58 : SC := sSeq (sReg (seqI o_u_at_41)) c_u_at_57
@[simp] def c_u_at_58_ap := seq_rule (c := c_u_at_58) rfl
def c_u_at_59 : SC := sCond (tg 104) c_u_at_43 c_u_at_58
@[simp] def c_u_at_59_ap := cond_rule (c := c_u_at_59) rfl
def c_u_at_60 : SC := sSeq (sReg (seqI o_u_at_39)) c_u_at_59
@[simp] def c_u_at_60_ap := seq_rule (c := c_u_at_60) rfl
def c_u_at_61 : SC := sCond (tg 99) c_u_at_42 c_u_at_60
@[simp] def c_u_at_61_ap := cond_rule (c := c_u_at_61) rfl
def c_u_at_62 : SC := sSeq (sReg (seqI o_u_at_37)) c_u_at_61
@[simp] def c_u_at_62_ap := seq_rule (c := c_u_at_62) rfl
def c_u_at_63 : SC := sCond (tg 94) c_u_at_41 c_u_at_62
@[simp] def c_u_at_63_ap := cond_rule (c := c_u_at_63) rfl
def c_u_at_64 : SC := sSeq (sReg (seqI o_u_at_35)) c_u_at_63
@[simp] def c_u_at_64_ap := seq_rule (c := c_u_at_64) rfl
def c_u_at_65 : SC := sCond (tg 83) c_u_at_40 c_u_at_64
@[simp] def c_u_at_65_ap := cond_rule (c := c_u_at_65) rfl
def c_u_at_66 : SC := sSeq (sReg (seqI o_u_at_29)) c_u_at_65
@[simp] def c_u_at_66_ap := seq_rule (c := c_u_at_66) rfl
def c_u_at_67 : SC := sCond (tg 71) c_u_at_30 c_u_at_66
@[simp] def c_u_at_67_ap := cond_rule (c := c_u_at_67) rfl
def c_u_at_68 : SC := sSeq (sReg (seqI o_u_at_23)) c_u_at_67
@[simp] def c_u_at_68_ap := seq_rule (c := c_u_at_68) rfl
def c_u_at_69 : SC := sCond (tg 66) c_u_at_20 c_u_at_68
@[simp] def c_u_at_69_ap := cond_rule (c := c_u_at_69) rfl
def c_u_at_70 : SC := sSeq (sReg (seqI o_u_at_21)) c_u_at_69
@[simp] def c_u_at_70_ap := seq_rule (c := c_u_at_70) rfl
def c_u_at_71 : SC := sCond (tg 61) c_u_at_19 c_u_at_70
@[simp] def c_u_at_71_ap := cond_rule (c := c_u_at_71) rfl
def c_u_at_72 : SC := sSeq (sReg (seqI o_u_at_19)) c_u_at_71
@[simp] def c_u_at_72_ap := seq_rule (c := c_u_at_72) rfl
def c_u_at_73 : SC := sCond (tg 56) c_u_at_18 c_u_at_72
@[simp] def c_u_at_73_ap := cond_rule (c := c_u_at_73) rfl
def c_u_at_74 : SC := sSeq (sReg (seqI o_u_at_17)) c_u_at_73
@[simp] def c_u_at_74_ap := seq_rule (c := c_u_at_74) rfl
def c_u_at_75 : SC := sBlock 1 c_u_at_74
@[simp] def c_u_at_75_ap := block_rule (c := c_u_at_75) rfl
def c_u_at_76 : SC := sSeq (sReg (seqI o_u_at_16)) c_u_at_75
@[simp] def c_u_at_76_ap := seq_rule (c := c_u_at_76) rfl
def o_u_at_51 : List IS := [ip 139 (pMov (tg 9)),
  ip 140 (pMov (tg 8)),
  ip 141 (pBin .leq (tg 139) (tg 140)),
  im 3 142 (mCall 64 [(tg 141)]),
  ip 6 (pMov (tg 142))]
@[simp] def o_u_at_51_ap := ops_rule (c := o_u_at_51) rfl
def c_u_at_77 : SC := sSeq (sReg (seqI o_u_at_51)) sRet
@[simp] def c_u_at_77_ap := seq_rule (c := c_u_at_77) rfl
def c_u_at_78 : SC := sSeq c_u_at_76 c_u_at_77
@[simp] def c_u_at_78_ap := seq_rule (c := c_u_at_78) rfl
def c_u_at_79 : SC := sSeq (sReg (seqI o_u_at_15)) c_u_at_78
@[simp] def c_u_at_79_ap := seq_rule (c := c_u_at_79) rfl
def c_u_at_80 : SC := sSeq c_u_at_17 c_u_at_79
@[simp] def c_u_at_80_ap := seq_rule (c := c_u_at_80) rfl
def c_u_at_81 : SC := sSeq (sReg (seqI o_u_at_7)) c_u_at_80
@[simp] def c_u_at_81_ap := seq_rule (c := c_u_at_81) rfl
def c_u_at_82 : SC := sSeq c_u_at_6 c_u_at_81
@[simp] def c_u_at_82_ap := seq_rule (c := c_u_at_82) rfl
def c_u_at_83 : SC := sSeq c_u_at_3 c_u_at_82
@[simp] def c_u_at_83_ap := seq_rule (c := c_u_at_83) rfl
def c_u_at_84 : SC := sSeq (sReg (seqI o_u_at_2)) c_u_at_83
@[simp] def c_u_at_84_ap := seq_rule (c := c_u_at_84) rfl
def c_u_at_85 : SC := sSeq (sReg (seqI o_u_at_1)) c_u_at_84
@[simp] def c_u_at_85_ap := seq_rule (c := c_u_at_85) rfl
def d_u_at : DFn := ⟨c_u_at_85, 143, [.t 6]⟩
theorem d_u_at_ok : fnOf Try.prog 43 = some d_u_at := by kernel_rfl
def o_k_may_1 : List IS := [ip 4 (pMov (cv (.bool false)))]
@[simp] def o_k_may_1_ap := ops_rule (c := o_k_may_1) rfl
def o_k_may_2 : List IS := [ip 5 (pMov (tg 0))]
@[simp] def o_k_may_2_ap := ops_rule (c := o_k_may_2) rfl
def o_k_may_3 : List IS := [ip 7 (pBin .eql (tg 5) (cv (.int .i64 2))),
  ip 6 (pMov (tg 7))]
@[simp] def o_k_may_3_ap := ops_rule (c := o_k_may_3) rfl
def o_k_may_4 : List IS := [ip 8 (pMov (tg 1)),
  ip 9 (pBin .eql (tg 8) (cv (.int .i64 1))),
  ip 10 (pMov (tg 9)),
  gd 10 false (some 11) (ip 11 (pMov (tg 1))),
  gd 10 false (some 12) (ip 12 (pBin .eql (tg 11) (cv (.int .i64 2)))),
  ip 13 (pPick (tg 10) (cv (.bool true)) (tg 12)),
  ip 14 (pMov (tg 13)),
  gd 14 false (some 15) (ip 15 (pMov (tg 1))),
  gd 14 false (some 16) (ip 16 (pBin .eql (tg 15) (cv (.int .i64 5)))),
  ip 17 (pPick (tg 14) (cv (.bool true)) (tg 16)),
  ip 4 (pMov (tg 17))]
@[simp] def o_k_may_4_ap := ops_rule (c := o_k_may_4) rfl
def c_k_may_1 : SC := sSeq (sReg (seqI o_k_may_4)) sRet
@[simp] def c_k_may_1_ap := seq_rule (c := c_k_may_1) rfl
def o_k_may_5 : List IS := [ip 19 (pBin .eql (tg 5) (cv (.int .i64 3))),
  ip 18 (pMov (tg 19))]
@[simp] def o_k_may_5_ap := ops_rule (c := o_k_may_5) rfl
def o_k_may_6 : List IS := [ip 20 (pMov (tg 1)),
  ip 21 (pBin .eql (tg 20) (cv (.int .i64 1))),
  ip 22 (pMov (tg 21)),
  gd 22 false (some 23) (ip 23 (pMov (tg 1))),
  gd 22 false (some 24) (ip 24 (pBin .eql (tg 23) (cv (.int .i64 3)))),
  ip 25 (pPick (tg 22) (cv (.bool true)) (tg 24)),
  ip 26 (pMov (tg 25)),
  gd 26 false (some 27) (ip 27 (pMov (tg 1))),
  gd 26 false (some 28) (ip 28 (pBin .eql (tg 27) (cv (.int .i64 5)))),
  ip 29 (pPick (tg 26) (cv (.bool true)) (tg 28)),
  ip 4 (pMov (tg 29))]
@[simp] def o_k_may_6_ap := ops_rule (c := o_k_may_6) rfl
def c_k_may_2 : SC := sSeq (sReg (seqI o_k_may_6)) sRet
@[simp] def c_k_may_2_ap := seq_rule (c := c_k_may_2) rfl
def o_k_may_7 : List IS := [ip 31 (pBin .eql (tg 5) (cv (.int .i64 4))),
  ip 30 (pMov (tg 31))]
@[simp] def o_k_may_7_ap := ops_rule (c := o_k_may_7) rfl
def o_k_may_8 : List IS := [ip 32 (pBin .eql (tg 5) (cv (.int .i64 5))),
  ip 30 (pMov (tg 32))]
@[simp] def o_k_may_8_ap := ops_rule (c := o_k_may_8) rfl
def o_k_may_9 : List IS := [ip 33 (pBin .eql (tg 5) (cv (.int .i64 6))),
  ip 30 (pMov (tg 33))]
@[simp] def o_k_may_9_ap := ops_rule (c := o_k_may_9) rfl
def c_k_may_3 : SC := sCond (tg 30) sSkip (sReg (seqI o_k_may_9))
@[simp] def c_k_may_3_ap := cond_rule (c := c_k_may_3) rfl
def c_k_may_4 : SC := sSeq (sReg (seqI o_k_may_8)) c_k_may_3
@[simp] def c_k_may_4_ap := seq_rule (c := c_k_may_4) rfl
def c_k_may_5 : SC := sCond (tg 30) sSkip c_k_may_4
@[simp] def c_k_may_5_ap := cond_rule (c := c_k_may_5) rfl
def c_k_may_6 : SC := sSeq (sReg (seqI o_k_may_7)) c_k_may_5
@[simp] def c_k_may_6_ap := seq_rule (c := c_k_may_6) rfl
def o_k_may_10 : List IS := [ip 34 (pMov (tg 1)),
  ip 35 (pBin .geq (tg 34) (cv (.int .i64 1))),
  ip 36 (pMov (tg 35)),
  gd 36 true (some 37) (ip 37 (pMov (tg 1))),
  gd 36 true (some 38) (ip 38 (pBin .leq (tg 37) (cv (.int .i64 5)))),
  ip 39 (pPick (tg 36) (tg 38) (cv (.bool false))),
  ip 4 (pMov (tg 39))]
@[simp] def o_k_may_10_ap := ops_rule (c := o_k_may_10) rfl
def c_k_may_7 : SC := sSeq (sReg (seqI o_k_may_10)) sRet
@[simp] def c_k_may_7_ap := seq_rule (c := c_k_may_7) rfl
def o_k_may_11 : List IS := [ip 41 (pBin .eql (tg 5) (cv (.int .i64 7))),
  ip 40 (pMov (tg 41))]
@[simp] def o_k_may_11_ap := ops_rule (c := o_k_may_11) rfl
def o_k_may_12 : List IS := [ip 42 (pMov (tg 1)),
  ip 43 (pBin .geq (tg 42) (cv (.int .i64 2))),
  ip 44 (pMov (tg 43)),
  gd 44 true (some 45) (ip 45 (pMov (tg 1))),
  gd 44 true (some 46) (ip 46 (pBin .leq (tg 45) (cv (.int .i64 5)))),
  ip 47 (pPick (tg 44) (tg 46) (cv (.bool false))),
  ip 4 (pMov (tg 47))]
@[simp] def o_k_may_12_ap := ops_rule (c := o_k_may_12) rfl
def c_k_may_8 : SC := sSeq (sReg (seqI o_k_may_12)) sRet
@[simp] def c_k_may_8_ap := seq_rule (c := c_k_may_8) rfl
def c_k_may_9 : SC := sCond (tg 40) c_k_may_8 sSkip
@[simp] def c_k_may_9_ap := cond_rule (c := c_k_may_9) rfl
def c_k_may_10 : SC := sSeq (sReg (seqI o_k_may_11)) c_k_may_9
@[simp] def c_k_may_10_ap := seq_rule (c := c_k_may_10) rfl
def c_k_may_11 : SC := sCond (tg 30) c_k_may_7 c_k_may_10
@[simp] def c_k_may_11_ap := cond_rule (c := c_k_may_11) rfl
def c_k_may_12 : SC := sSeq c_k_may_6 c_k_may_11
@[simp] def c_k_may_12_ap := seq_rule (c := c_k_may_12) rfl
def c_k_may_13 : SC := sCond (tg 18) c_k_may_2 c_k_may_12
@[simp] def c_k_may_13_ap := cond_rule (c := c_k_may_13) rfl
def c_k_may_14 : SC := sSeq (sReg (seqI o_k_may_5)) c_k_may_13
@[simp] def c_k_may_14_ap := seq_rule (c := c_k_may_14) rfl
def c_k_may_15 : SC := sCond (tg 6) c_k_may_1 c_k_may_14
@[simp] def c_k_may_15_ap := cond_rule (c := c_k_may_15) rfl
def c_k_may_16 : SC := sSeq (sReg (seqI o_k_may_3)) c_k_may_15
@[simp] def c_k_may_16_ap := seq_rule (c := c_k_may_16) rfl
def c_k_may_17 : SC := sBlock 0 c_k_may_16
@[simp] def c_k_may_17_ap := block_rule (c := c_k_may_17) rfl
def c_k_may_18 : SC := sSeq (sReg (seqI o_k_may_2)) c_k_may_17
@[simp] def c_k_may_18_ap := seq_rule (c := c_k_may_18) rfl
def o_k_may_13 : List IS := [ip 48 (pMov (tg 1)),
  ip 49 (pBin .eql (tg 48) (cv (.int .i64 0))),
  ip 4 (pMov (tg 49))]
@[simp] def o_k_may_13_ap := ops_rule (c := o_k_may_13) rfl
def c_k_may_19 : SC := sSeq (sReg (seqI o_k_may_13)) sRet
@[simp] def c_k_may_19_ap := seq_rule (c := c_k_may_19) rfl
def c_k_may_20 : SC := sSeq c_k_may_18 c_k_may_19
@[simp] def c_k_may_20_ap := seq_rule (c := c_k_may_20) rfl
def c_k_may_21 : SC := sSeq (sReg (seqI o_k_may_1)) c_k_may_20
@[simp] def c_k_may_21_ap := seq_rule (c := c_k_may_21) rfl
def d_k_may : DFn := ⟨c_k_may_21, 50, [.t 4]⟩
theorem d_k_may_ok : fnOf Try.prog 59 = some d_k_may := by kernel_rfl
def o_k_parts_1 : List IS := [im 1 2 (mAlloc [(.bool false), (.bool false), (.bool false), (.bool false), (.bool false)])]
@[simp] def o_k_parts_1_ap := ops_rule (c := o_k_parts_1) rfl
def o_k_parts_2 : List IS := [ip 3 (pBuild [(.bool false), (.bool false), (.bool false), (.bool false), (.bool false)] [(0, 1, (cv (.bool true))), (2, 1, (cv (.bool true)))]),
  ip 4 (pBuild [(.bool false), (.bool false), (.bool false), (.bool false), (.bool false)] [(0, 1, (cv (.bool true))), (1, 1, (cv (.bool true)))]),
  ip 5 (pBuild [(.bool false), (.bool false), (.bool false), (.bool false), (.bool false)] [(1, 1, (cv (.bool true))), (2, 1, (cv (.bool true)))]),
  ip 6 (pBuild [(.bool false), (.bool false), (.bool false), (.bool false), (.bool false)] [(0, 1, (cv (.bool true))), (1, 1, (cv (.bool true))), (2, 1, (cv (.bool true)))]),
  ip 7 (pBuild [(.bool false), (.bool false), (.bool false), (.bool false), (.bool false)] [(0, 1, (cv (.bool true))), (1, 1, (cv (.bool true))), (2, 1, (cv (.bool true)))]),
  ip 8 (pBuild [(.bool false), (.bool false), (.bool false), (.bool false), (.bool false)] [(0, 1, (cv (.bool true))), (1, 1, (cv (.bool true))), (2, 1, (cv (.bool true))), (3, 1, (cv (.bool true)))]),
  ip 9 (pBuild [(.bool false), (.bool false), (.bool false), (.bool false), (.bool false)] []),
  ip 10 (pBuild [(.bool false), (.bool false), (.bool false), (.bool false), (.bool false)] [(2, 1, (cv (.bool true)))]),
  ip 11 (pBuild [(.bool false), (.bool false), (.bool false), (.bool false), (.bool false)] [(4, 1, (cv (.bool true)))]),
  ip 12 (pBuild [(.bool false), (.bool false), (.bool false), (.bool false), (.bool false)] [(2, 1, (cv (.bool true))), (4, 1, (cv (.bool true)))]),
  ip 13 (pBuild [(.bool false), (.bool false), (.bool false), (.bool false), (.bool false), (.bool false), (.bool false), (.bool false), (.bool false), (.bool false), (.bool false), (.bool false), (.bool false), (.bool false), (.bool false), (.bool false), (.bool false), (.bool false), (.bool false), (.bool false), (.bool false), (.bool false), (.bool false), (.bool false), (.bool false), (.bool false), (.bool false), (.bool false), (.bool false), (.bool false), (.bool false), (.bool false), (.bool false), (.bool false), (.bool false), (.bool false), (.bool false), (.bool false), (.bool false), (.bool false), (.bool false), (.bool false), (.bool false), (.bool false), (.bool false), (.bool false), (.bool false), (.bool false), (.bool false), (.bool false), (.bool false), (.bool false), (.bool false), (.bool false), (.bool false)] [(5, 5, (tg 3)), (10, 5, (tg 4)), (15, 5, (tg 5)), (20, 5, (tg 6)), (25, 5, (tg 7)), (30, 5, (tg 8)), (35, 5, (tg 9)), (40, 5, (tg 10)), (45, 5, (tg 11)), (50, 5, (tg 12))]),
  ip 14 (pMov (tg 0)),
  ip 15 (pIdx 11 true 5 (tg 13) (tg 14)),
  im0 3 (mStore 5 (tg 2) (tg 15))]
@[simp] def o_k_parts_2_ap := ops_rule (c := o_k_parts_2) rfl
def c_k_parts_1 : SC := sSeq (sReg (seqI o_k_parts_2)) sRet
@[simp] def c_k_parts_1_ap := seq_rule (c := c_k_parts_1) rfl
def c_k_parts_2 : SC := sSeq (sReg (seqI o_k_parts_1)) c_k_parts_1
@[simp] def c_k_parts_2_ap := seq_rule (c := c_k_parts_2) rfl
def d_k_parts : DFn := ⟨c_k_parts_2, 16, [.cell 2 5]⟩
theorem d_k_parts_ok : fnOf Try.prog 60 = some d_k_parts := by kernel_rfl
def o_k_wholePlace_1 : List IS := [im 1 3 (mBox (tg 0)),
  im 1 4 (mBox (tg 1)),
  ip 6 (pMov (cv (.bool false)))]
@[simp] def o_k_wholePlace_1_ap := ops_rule (c := o_k_wholePlace_1) rfl
def o_k_wholePlace_2 : List IS := [ip 7 (pFaddr 3 (tg 3)),
  il 8 (tg 7) (mLoad1 (tg 7)),
  ip 9 (pBin .lss (tg 8) (cv (.int .i64 0))),
  ip 10 (pMov (tg 9)),
  gd 10 false (some 11) (ip 11 (pFaddr 3 (tg 3))),
  gd 10 false (some 12) (il 12 (tg 11) (mLoad1 (tg 11))),
  gd 10 false (some 13) (ip 13 (pBin .gtr (tg 12) (cv (.int .i64 1024)))),
  ip 14 (pPick (tg 10) (cv (.bool true)) (tg 13)),
  ip 15 (pMov (tg 14)),
  gd 15 false (some 16) (ip 16 (pFaddr 3 (tg 3))),
  gd 15 false (some 17) (il 17 (tg 16) (mLoad1 (tg 16))),
  gd 15 false (some 18) (ip 18 (pFaddr 3 (tg 3))),
  gd 15 false (some 19) (il 19 (tg 18) (mLoad1 (tg 18))),
  gd 15 false (some 20) (ip 20 (pBin .sub (tg 19) (cv (.int .i64 1)))),
  gd 15 false (some 21) (ip 21 (pBin .and (tg 17) (tg 20))),
  gd 15 false (some 22) (ip 22 (pBin .neq (tg 21) (cv (.int .i64 0)))),
  ip 23 (pPick (tg 15) (cv (.bool true)) (tg 22)),
  ip 24 (pMov (tg 23)),
  gd 24 false (some 25) (ip 25 (pFaddr 2 (tg 3))),
  gd 24 false (some 26) (il 26 (tg 25) (mLoad1 (tg 25))),
  gd 24 false (some 27) (ip 27 (pBin .lss (tg 26) (cv (.int .i64 0)))),
  ip 28 (pPick (tg 24) (cv (.bool true)) (tg 27)),
  ip 29 (pMov (tg 28)),
  gd 29 false (some 30) (ip 30 (pFaddr 2 (tg 3))),
  gd 29 false (some 31) (il 31 (tg 30) (mLoad1 (tg 30))),
  gd 29 false (some 32) (ip 32 (pFaddr 0 (tg 4))),
  gd 29 false (some 33) (il 33 (tg 32) (mLoad1 (tg 32))),
  gd 29 false (some 34) (ip 34 (pFaddr 3 (tg 3))),
  gd 29 false (some 35) (il 35 (tg 34) (mLoad1 (tg 34))),
  gd 29 false (some 36) (ip 36 (pMm True [(cv (.int .i64 1)), (tg 35)])),
  gd 29 false (some 37) (ip 37 (pBin .sub (tg 33) (tg 36))),
  gd 29 false (some 38) (ip 38 (pBin .gtr (tg 31) (tg 37))),
  ip 39 (pPick (tg 29) (cv (.bool true)) (tg 38))]
@[simp] def o_k_wholePlace_2_ap := ops_rule (c := o_k_wholePlace_2) rfl
def o_k_wholePlace_3 : List IS := [ip 6 (pMov (cv (.bool false)))]
@[simp] def o_k_wholePlace_3_ap := ops_rule (c := o_k_wholePlace_3) rfl
def c_k_wholePlace_1 : SC := sSeq (sReg (seqI o_k_wholePlace_3)) sRet
@[simp] def c_k_wholePlace_1_ap := seq_rule (c := c_k_wholePlace_1) rfl
def c_k_wholePlace_2 : SC := sCond (tg 39) c_k_wholePlace_1 sSkip
@[simp] def c_k_wholePlace_2_ap := cond_rule (c := c_k_wholePlace_2) rfl
def c_k_wholePlace_3 : SC := sSeq (sReg (seqI o_k_wholePlace_2)) c_k_wholePlace_2
@[simp] def c_k_wholePlace_3_ap := seq_rule (c := c_k_wholePlace_3) rfl
def o_k_wholePlace_4 : List IS := [ip 40 (pFaddr 3 (tg 3)),
  il 41 (tg 40) (mLoad1 (tg 40)),
  ip 42 (pBin .eql (tg 41) (cv (.int .i64 0))),
  ip 43 (pMov (tg 42)),
  gd 43 true (some 44) (ip 44 (pFaddr 4 (tg 3))),
  gd 43 true (some 45) (il 45 (tg 44) (mLoad1 (tg 44))),
  gd 43 true (some 46) (ip 46 (pLen (tg 45))),
  gd 43 true (some 47) (ip 47 (pBin .eql (tg 46) (cv (.int .i64 0)))),
  ip 48 (pPick (tg 43) (tg 47) (cv (.bool false))),
  ip 49 (pMov (tg 48)),
  gd 49 false (some 50) (ip 50 (pFaddr 3 (tg 3))),
  gd 49 false (some 51) (il 51 (tg 50) (mLoad1 (tg 50))),
  gd 49 false (some 52) (ip 52 (pBin .gtr (tg 51) (cv (.int .i64 0)))),
  gd 49 false (some 53) (ip 53 (pMov (tg 52))),
  gd 53 true (some 54) (ip 54 (pFaddr 4 (tg 3))),
  gd 53 true (some 55) (il 55 (tg 54) (mLoad1 (tg 54))),
  gd 53 true (some 56) (ip 56 (pMov (tg 2))),
  gd 53 true (some 57) (im 3 57 (mCall 62 [(tg 55), (tg 56)])),
  gd 49 false (some 58) (ip 58 (pPick (tg 53) (tg 57) (cv (.bool false)))),
  ip 59 (pPick (tg 49) (cv (.bool true)) (tg 58)),
  ip 6 (pMov (tg 59))]
@[simp] def o_k_wholePlace_4_ap := ops_rule (c := o_k_wholePlace_4) rfl
def c_k_wholePlace_4 : SC := sSeq (sReg (seqI o_k_wholePlace_4)) sRet
@[simp] def c_k_wholePlace_4_ap := seq_rule (c := c_k_wholePlace_4) rfl
def c_k_wholePlace_5 : SC := sSeq c_k_wholePlace_3 c_k_wholePlace_4
@[simp] def c_k_wholePlace_5_ap := seq_rule (c := c_k_wholePlace_5) rfl
def c_k_wholePlace_6 : SC := sSeq (sReg (seqI o_k_wholePlace_1)) c_k_wholePlace_5
@[simp] def c_k_wholePlace_6_ap := seq_rule (c := c_k_wholePlace_6) rfl
def d_k_wholePlace : DFn := ⟨c_k_wholePlace_6, 60, [.t 6]⟩
theorem d_k_wholePlace_ok : fnOf Try.prog 61 = some d_k_wholePlace := by kernel_rfl
def o_k_expression_1 : List IS := [ip 4 (pMov (cv (.bool false)))]
@[simp] def o_k_expression_1_ap := ops_rule (c := o_k_expression_1) rfl
def o_k_expression_2 : List IS := [ip 9 (pMov (tg 0)),
  ip 10 (pLen (tg 9)),
  ip 11 (pMov (cv (.int .i64 0)))]
@[simp] def o_k_expression_2_ap := ops_rule (c := o_k_expression_2) rfl
def o_k_expression_3 : List IS := [ip 12 (pBin .lss (tg 11) (tg 10))]
@[simp] def o_k_expression_3_ap := ops_rule (c := o_k_expression_3) rfl
def c_k_expression_1 : SC := sCond (tg 12) sSkip (sExit 0)
@[simp] def c_k_expression_1_ap := cond_rule (c := c_k_expression_1) rfl
def o_k_expression_4 : List IS := [ip 13 (pMov (tg 11)),
  ip 14 (pIaddrS 4 (tg 9) (tg 11)),
  il 15 (tg 14) (mLoadN 4 (tg 14)),
  im 1 6 (mAlloc [(.int .i64 0), (.int .u64 0), (.int .i64 0), (.int .i64 0)]),
  ip 5 (pMov (tg 13)),
  im0 3 (mStore 4 (tg 6) (tg 15))]
@[simp] def o_k_expression_4_ap := ops_rule (c := o_k_expression_4) rfl
def o_k_expression_5 : List DA := [⟨CI.pure (pFaddr 2 (tg 6)), (some 16), none, 0, []⟩,
  ⟨CI.load (tg 16) (mLoad1 (tg 16)), (some 17), none, 1, []⟩,
  ⟨CI.pure (pBin .geq (tg 17) (cv (.int .i64 0))), (some 18), none, 2, []⟩,
  ⟨CI.pure (pMov (tg 18)), (some 19), none, 3, []⟩,
  ⟨CI.pure (pFaddr 2 (tg 6)), (some 20), (some (19, true)), 4, []⟩,
  ⟨CI.load (tg 20) (mLoad1 (tg 20)), (some 21), (some (19, true)), 5, []⟩,
  ⟨CI.pure (pMov (tg 5)), (some 22), (some (19, true)), 6, []⟩,
  ⟨CI.pure (pBin .lss (tg 21) (tg 22)), (some 23), (some (19, true)), 7, []⟩,
  ⟨CI.pure (pPick (tg 19) (tg 23) (cv (.bool false))), (some 24), none, 8, []⟩,
  ⟨CI.pure (pFaddr 3 (tg 6)), (some 25), none, 9, []⟩,
  ⟨CI.load (tg 25) (mLoad1 (tg 25)), (some 26), none, 10, []⟩,
  ⟨CI.pure (pBin .geq (tg 26) (cv (.int .i64 0))), (some 27), none, 11, []⟩,
  ⟨CI.pure (pMov (tg 27)), (some 28), none, 12, []⟩,
  ⟨CI.pure (pFaddr 3 (tg 6)), (some 29), (some (28, true)), 13, []⟩,
  ⟨CI.load (tg 29) (mLoad1 (tg 29)), (some 30), (some (28, true)), 14, []⟩,
  ⟨CI.pure (pMov (tg 5)), (some 31), (some (28, true)), 15, []⟩,
  ⟨CI.pure (pBin .lss (tg 30) (tg 31)), (some 32), (some (28, true)), 16, []⟩,
  ⟨CI.pure (pPick (tg 28) (tg 32) (cv (.bool false))), (some 33), none, 17, []⟩,
  ⟨CI.pure (pMov (tg 24)), (some 7), none, 18, []⟩,
  ⟨CI.pure (pMov (tg 33)), (some 8), none, 19, []⟩]
@[simp] def o_k_expression_5_ap := das_rule (c := o_k_expression_5) rfl
def o_k_expression_6 : List IS := [ip 51 (pFaddr 0 (tg 6)),
  il 52 (tg 51) (mLoad1 (tg 51)),
  ip 53 (pBin .eql (tg 52) (cv (.int .i64 1))),
  ip 50 (pMov (tg 53))]
@[simp] def o_k_expression_6_ap := ops_rule (c := o_k_expression_6) rfl
def o_k_expression_7 : List DA := [⟨CI.pure (pFaddr 2 (tg 6)), (some 54), none, 0, []⟩,
  ⟨CI.load (tg 54) (mLoad1 (tg 54)), (some 55), none, 1, []⟩,
  ⟨CI.pure (pBin .eql (tg 55) (cv (.int .i64 0))), (some 56), none, 2, []⟩,
  ⟨CI.pure (pFaddr 3 (tg 6)), (some 57), none, 3, []⟩,
  ⟨CI.load (tg 57) (mLoad1 (tg 57)), (some 58), none, 4, []⟩,
  ⟨CI.pure (pBin .eql (tg 58) (cv (.int .i64 0))), (some 59), none, 5, []⟩,
  ⟨CI.pure (pMov (tg 56)), (some 7), none, 6, []⟩,
  ⟨CI.pure (pMov (tg 59)), (some 8), none, 7, []⟩]
@[simp] def o_k_expression_7_ap := das_rule (c := o_k_expression_7) rfl
def o_k_expression_8 : List IS := [ip 61 (pFaddr 0 (tg 6)),
  il 62 (tg 61) (mLoad1 (tg 61)),
  ip 63 (pBin .eql (tg 62) (cv (.int .i64 2))),
  ip 60 (pMov (tg 63))]
@[simp] def o_k_expression_8_ap := ops_rule (c := o_k_expression_8) rfl
def o_k_expression_9 : List DA := [⟨CI.pure (pFaddr 2 (tg 6)), (some 64), none, 0, []⟩,
  ⟨CI.load (tg 64) (mLoad1 (tg 64)), (some 65), none, 1, []⟩,
  ⟨CI.pure (pBin .eql (tg 65) (cv (.int .i64 0))), (some 66), none, 2, []⟩,
  ⟨CI.pure (pMov (tg 66)), (some 67), none, 3, []⟩,
  ⟨CI.pure (pFaddr 1 (tg 6)), (some 68), (some (67, true)), 4, []⟩,
  ⟨CI.load (tg 68) (mLoad1 (tg 68)), (some 69), (some (67, true)), 5, []⟩,
  ⟨CI.pure (pMov (tg 1)), (some 70), (some (67, true)), 6, []⟩,
  ⟨CI.pure (pConvI .u64 (tg 70)), (some 71), (some (67, true)), 7, []⟩,
  ⟨CI.pure (pBin .lss (tg 69) (tg 71)), (some 72), (some (67, true)), 8, []⟩,
  ⟨CI.pure (pPick (tg 67) (tg 72) (cv (.bool false))), (some 73), none, 9, []⟩,
  ⟨CI.pure (pFaddr 3 (tg 6)), (some 74), none, 10, []⟩,
  ⟨CI.load (tg 74) (mLoad1 (tg 74)), (some 75), none, 11, []⟩,
  ⟨CI.pure (pBin .eql (tg 75) (cv (.int .i64 0))), (some 76), none, 12, []⟩,
  ⟨CI.pure (pMov (tg 73)), (some 7), none, 13, []⟩,
  ⟨CI.pure (pMov (tg 76)), (some 8), none, 14, []⟩]
@[simp] def o_k_expression_9_ap := das_rule (c := o_k_expression_9) rfl
def o_k_expression_10 : List IS := [ip 78 (pFaddr 0 (tg 6)),
  il 79 (tg 78) (mLoad1 (tg 78)),
  ip 80 (pBin .geq (tg 79) (cv (.int .i64 3))),
  ip 81 (pMov (tg 80)),
  gd 81 true (some 82) (ip 82 (pFaddr 0 (tg 6))),
  gd 81 true (some 83) (il 83 (tg 82) (mLoad1 (tg 82))),
  gd 81 true (some 84) (ip 84 (pBin .leq (tg 83) (cv (.int .i64 5)))),
  ip 85 (pPick (tg 81) (tg 84) (cv (.bool false))),
  ip 77 (pMov (tg 85))]
@[simp] def o_k_expression_10_ap := ops_rule (c := o_k_expression_10) rfl
def o_k_expression_11 : List IS := [ip 86 (pFaddr 3 (tg 6)),
  il 87 (tg 86) (mLoad1 (tg 86)),
  ip 88 (pBin .eql (tg 87) (cv (.int .i64 0))),
  ip 89 (pMov (tg 88)),
  gd 89 true (some 90) (ip 90 (pFaddr 1 (tg 6))),
  gd 89 true (some 91) (il 91 (tg 90) (mLoad1 (tg 90))),
  gd 89 true (some 92) (ip 92 (pBin .eql (tg 91) (cv (.int .u64 0)))),
  ip 93 (pPick (tg 89) (tg 92) (cv (.bool false))),
  ip 8 (pMov (tg 93))]
@[simp] def o_k_expression_11_ap := ops_rule (c := o_k_expression_11) rfl
def o_k_expression_12 : List IS := [ip 34 (pMov (tg 8)),
  ip 35 (pMov (tg 34)),
  gd 35 true (some 36) (ip 36 (pFaddr 0 (tg 6))),
  gd 35 true (some 37) (il 37 (tg 36) (mLoad1 (tg 36))),
  gd 35 true (some 38) (ip 38 (pBin .geq (tg 37) (cv (.int .i64 6)))),
  ip 39 (pPick (tg 35) (tg 38) (cv (.bool false))),
  ip 40 (pMov (tg 39)),
  gd 40 true (some 41) (ip 41 (pFaddr 0 (tg 6))),
  gd 40 true (some 42) (il 42 (tg 41) (mLoad1 (tg 41))),
  gd 40 true (some 43) (ip 43 (pBin .leq (tg 42) (cv (.int .i64 19)))),
  ip 44 (pPick (tg 40) (tg 43) (cv (.bool false))),
  ip 45 (pMov (tg 44)),
  gd 45 true (some 46) (ip 46 (pFaddr 1 (tg 6))),
  gd 45 true (some 47) (il 47 (tg 46) (mLoad1 (tg 46))),
  gd 45 true (some 48) (ip 48 (pBin .eql (tg 47) (cv (.int .u64 0)))),
  ip 49 (pPick (tg 45) (tg 48) (cv (.bool false))),
  ip 8 (pMov (tg 49))]
@[simp] def o_k_expression_12_ap := ops_rule (c := o_k_expression_12) rfl
def c_k_expression_2 : SC := sCond (tg 77) (sReg (seqI o_k_expression_11)) (sReg (seqI o_k_expression_12))
@[simp] def c_k_expression_2_ap := cond_rule (c := c_k_expression_2) rfl
def c_k_expression_3 : SC := sSeq (sReg (seqI o_k_expression_10)) c_k_expression_2
@[simp] def c_k_expression_3_ap := seq_rule (c := c_k_expression_3) rfl
def c_k_expression_4 : SC := sCond (tg 60) (sAny o_k_expression_9) c_k_expression_3
@[simp] def c_k_expression_4_ap := cond_rule (c := c_k_expression_4) rfl
def c_k_expression_5 : SC := sSeq (sReg (seqI o_k_expression_8)) c_k_expression_4
@[simp] def c_k_expression_5_ap := seq_rule (c := c_k_expression_5) rfl
def c_k_expression_6 : SC := sCond (tg 50) (sAny o_k_expression_7) c_k_expression_5
@[simp] def c_k_expression_6_ap := cond_rule (c := c_k_expression_6) rfl
def c_k_expression_7 : SC := sSeq (sReg (seqI o_k_expression_6)) c_k_expression_6
@[simp] def c_k_expression_7_ap := seq_rule (c := c_k_expression_7) rfl
def c_k_expression_8 : SC := sBlock 2 c_k_expression_7
@[simp] def c_k_expression_8_ap := block_rule (c := c_k_expression_8) rfl
def o_k_expression_13 : List IS := [ip 94 (pMov (tg 7)),
  ip 95 (pUn .not (tg 94)),
  ip 96 (pMov (tg 95)),
  gd 96 false (some 97) (ip 97 (pMov (tg 8))),
  gd 96 false (some 98) (ip 98 (pUn .not (tg 97))),
  ip 99 (pPick (tg 96) (cv (.bool true)) (tg 98))]
@[simp] def o_k_expression_13_ap := ops_rule (c := o_k_expression_13) rfl
def o_k_expression_14 : List IS := [ip 4 (pMov (cv (.bool false)))]
@[simp] def o_k_expression_14_ap := ops_rule (c := o_k_expression_14) rfl
def c_k_expression_9 : SC := sSeq (sReg (seqI o_k_expression_14)) sRet
@[simp] def c_k_expression_9_ap := seq_rule (c := c_k_expression_9) rfl
def c_k_expression_10 : SC := sCond (tg 99) c_k_expression_9 sSkip
@[simp] def c_k_expression_10_ap := cond_rule (c := c_k_expression_10) rfl
def c_k_expression_11 : SC := sSeq (sReg (seqI o_k_expression_13)) c_k_expression_10
@[simp] def c_k_expression_11_ap := seq_rule (c := c_k_expression_11) rfl
def c_k_expression_12 : SC := sSeq c_k_expression_8 c_k_expression_11
@[simp] def c_k_expression_12_ap := seq_rule (c := c_k_expression_12) rfl
def c_k_expression_13 : SC := sSeq (sAny o_k_expression_5) c_k_expression_12
@[simp] def c_k_expression_13_ap := seq_rule (c := c_k_expression_13) rfl
def c_k_expression_14 : SC := sSeq (sReg (seqI o_k_expression_4)) c_k_expression_13
@[simp] def c_k_expression_14_ap := seq_rule (c := c_k_expression_14) rfl
def c_k_expression_15 : SC := sBlock 1 c_k_expression_14
@[simp] def c_k_expression_15_ap := block_rule (c := c_k_expression_15) rfl
def o_k_expression_15 : List IS := [ip 100 (pBin .add (tg 11) (cv (.int .i64 1))),
  ip 11 (pMov (tg 100))]
@[simp] def o_k_expression_15_ap := ops_rule (c := o_k_expression_15) rfl
def c_k_expression_16 : SC := sSeq c_k_expression_15 (sReg (seqI o_k_expression_15))
@[simp] def c_k_expression_16_ap := seq_rule (c := c_k_expression_16) rfl
def c_k_expression_17 : SC := sSeq c_k_expression_1 c_k_expression_16
@[simp] def c_k_expression_17_ap := seq_rule (c := c_k_expression_17) rfl
def c_k_expression_18 : SC := sSeq (sReg (seqI o_k_expression_3)) c_k_expression_17
@[simp] def c_k_expression_18_ap := seq_rule (c := c_k_expression_18) rfl
def c_k_expression_19 : SC := sLoop c_k_expression_18
def c_k_expression_20 : SC := sBlock 0 c_k_expression_19
@[simp] def c_k_expression_20_ap := block_rule (c := c_k_expression_20) rfl
def c_k_expression_21 : SC := sSeq (sReg (seqI o_k_expression_2)) c_k_expression_20
@[simp] def c_k_expression_21_ap := seq_rule (c := c_k_expression_21) rfl
def o_k_expression_16 : List IS := [ip 101 (pMov (tg 0)),
  ip 102 (pLen (tg 101)),
  ip 103 (pBin .gtr (tg 102) (cv (.int .i64 0))),
  ip 104 (pMov (tg 103)),
  gd 104 true (some 105) (ip 105 (pMov (tg 0))),
  gd 104 true (some 106) (ip 106 (pLen (tg 105))),
  gd 104 true (some 107) (ip 107 (pBin .leq (tg 106) (cv (.int .i64 65536)))),
  ip 108 (pPick (tg 104) (tg 107) (cv (.bool false))),
  ip 109 (pMov (tg 108)),
  gd 109 true (some 110) (ip 110 (pMov (tg 0))),
  gd 109 true (some 111) (im 3 111 (mCall 84 [(tg 110)])),
  ip 112 (pPick (tg 109) (tg 111) (cv (.bool false))),
  ip 4 (pMov (tg 112))]
@[simp] def o_k_expression_16_ap := ops_rule (c := o_k_expression_16) rfl
def c_k_expression_22 : SC := sSeq (sReg (seqI o_k_expression_16)) sRet
@[simp] def c_k_expression_22_ap := seq_rule (c := c_k_expression_22) rfl
def c_k_expression_23 : SC := sSeq c_k_expression_21 c_k_expression_22
@[simp] def c_k_expression_23_ap := seq_rule (c := c_k_expression_23) rfl
def c_k_expression_24 : SC := sSeq (sReg (seqI o_k_expression_1)) c_k_expression_23
@[simp] def c_k_expression_24_ap := seq_rule (c := c_k_expression_24) rfl
def d_k_expression : DFn := ⟨c_k_expression_24, 113, [.t 4]⟩
theorem d_k_expression_ok : fnOf Try.prog 62 = some d_k_expression := by kernel_rfl
def o_src_truth_1 : List IS := [ip 2 (pMov (cv (.int .u64 0)))]
@[simp] def o_src_truth_1_ap := ops_rule (c := o_src_truth_1) rfl
def o_src_truth_2 : List IS := [ip 3 (pMov (tg 0))]
@[simp] def o_src_truth_2_ap := ops_rule (c := o_src_truth_2) rfl
def o_src_truth_3 : List IS := [ip 2 (pMov (cv (.int .u64 1)))]
@[simp] def o_src_truth_3_ap := ops_rule (c := o_src_truth_3) rfl
def c_src_truth_1 : SC := sSeq (sReg (seqI o_src_truth_3)) sRet
@[simp] def c_src_truth_1_ap := seq_rule (c := c_src_truth_1) rfl
def c_src_truth_2 : SC := sCond (tg 3) c_src_truth_1 sSkip
@[simp] def c_src_truth_2_ap := cond_rule (c := c_src_truth_2) rfl
def c_src_truth_3 : SC := sSeq (sReg (seqI o_src_truth_2)) c_src_truth_2
@[simp] def c_src_truth_3_ap := seq_rule (c := c_src_truth_3) rfl
def o_src_truth_4 : List IS := [ip 2 (pMov (cv (.int .u64 0)))]
@[simp] def o_src_truth_4_ap := ops_rule (c := o_src_truth_4) rfl
def c_src_truth_4 : SC := sSeq (sReg (seqI o_src_truth_4)) sRet
@[simp] def c_src_truth_4_ap := seq_rule (c := c_src_truth_4) rfl
def c_src_truth_5 : SC := sSeq c_src_truth_3 c_src_truth_4
@[simp] def c_src_truth_5_ap := seq_rule (c := c_src_truth_5) rfl
def c_src_truth_6 : SC := sSeq (sReg (seqI o_src_truth_1)) c_src_truth_5
@[simp] def c_src_truth_6_ap := seq_rule (c := c_src_truth_6) rfl
def d_src_truth : DFn := ⟨c_src_truth_6, 4, [.t 2]⟩
theorem d_src_truth_ok : fnOf Try.prog 63 = some d_src_truth := by kernel_rfl
def o_u_yes_1 : List IS := [ip 2 (pMov (cv (.int .u64 0)))]
@[simp] def o_u_yes_1_ap := ops_rule (c := o_u_yes_1) rfl
def o_u_yes_2 : List IS := [ip 3 (pMov (tg 0))]
@[simp] def o_u_yes_2_ap := ops_rule (c := o_u_yes_2) rfl
def o_u_yes_3 : List IS := [ip 2 (pMov (cv (.int .u64 1)))]
@[simp] def o_u_yes_3_ap := ops_rule (c := o_u_yes_3) rfl
def c_u_yes_1 : SC := sSeq (sReg (seqI o_u_yes_3)) sRet
@[simp] def c_u_yes_1_ap := seq_rule (c := c_u_yes_1) rfl
def c_u_yes_2 : SC := sCond (tg 3) c_u_yes_1 sSkip
@[simp] def c_u_yes_2_ap := cond_rule (c := c_u_yes_2) rfl
def c_u_yes_3 : SC := sSeq (sReg (seqI o_u_yes_2)) c_u_yes_2
@[simp] def c_u_yes_3_ap := seq_rule (c := c_u_yes_3) rfl
def o_u_yes_4 : List IS := [ip 2 (pMov (cv (.int .u64 0)))]
@[simp] def o_u_yes_4_ap := ops_rule (c := o_u_yes_4) rfl
def c_u_yes_4 : SC := sSeq (sReg (seqI o_u_yes_4)) sRet
@[simp] def c_u_yes_4_ap := seq_rule (c := c_u_yes_4) rfl
def c_u_yes_5 : SC := sSeq c_u_yes_3 c_u_yes_4
@[simp] def c_u_yes_5_ap := seq_rule (c := c_u_yes_5) rfl
def c_u_yes_6 : SC := sSeq (sReg (seqI o_u_yes_1)) c_u_yes_5
@[simp] def c_u_yes_6_ap := seq_rule (c := c_u_yes_6) rfl
def d_u_yes : DFn := ⟨c_u_yes_6, 4, [.t 2]⟩
theorem d_u_yes_ok : fnOf Try.prog 64 = some d_u_yes := by kernel_rfl
def o_k_once_1 : List IS := [ip 2 (pMov (cv (.bool false)))]
@[simp] def o_k_once_1_ap := ops_rule (c := o_k_once_1) rfl
def o_k_once_2 : List IS := [ip 8 (pMov (tg 0)),
  ip 9 (pLen (tg 8)),
  im 1 10 (mMkslice 1 8 [(.int .i64 0)] (tg 9) (tg 9)),
  ip 3 (pMov (tg 10))]
@[simp] def o_k_once_2_ap := ops_rule (c := o_k_once_2) rfl
def o_k_once_3 : List IS := [ip 11 (pMov (tg 0)),
  ip 12 (pLen (tg 11)),
  ip 13 (pMov (cv (.int .i64 0)))]
@[simp] def o_k_once_3_ap := ops_rule (c := o_k_once_3) rfl
def o_k_once_4 : List IS := [ip 14 (pBin .lss (tg 13) (tg 12))]
@[simp] def o_k_once_4_ap := ops_rule (c := o_k_once_4) rfl
def c_k_once_1 : SC := sCond (tg 14) sSkip (sExit 0)
@[simp] def c_k_once_1_ap := cond_rule (c := c_k_once_1) rfl
def o_k_once_5 : List IS := [ip 15 (pIaddrS 4 (tg 11) (tg 13)),
  il 16 (tg 15) (mLoadN 4 (tg 15)),
  im 1 5 (mAlloc [(.int .i64 0), (.int .u64 0), (.int .i64 0), (.int .i64 0)]),
  im0 3 (mStore 4 (tg 5) (tg 16))]
@[simp] def o_k_once_5_ap := ops_rule (c := o_k_once_5) rfl
def o_k_once_6 : List IS := [ip 17 (pFaddr 0 (tg 5)),
  il 18 (tg 17) (mLoad1 (tg 17)),
  ip 19 (pBin .geq (tg 18) (cv (.int .i64 3)))]
@[simp] def o_k_once_6_ap := ops_rule (c := o_k_once_6) rfl
def o_k_once_7 : List IS := [ip 20 (pMov (tg 3)),
  ip 21 (pFaddr 2 (tg 5)),
  il 22 (tg 21) (mLoad1 (tg 21)),
  ip 23 (pIaddrS 1 (tg 20) (tg 22)),
  il 24 (tg 23) (mLoad1 (tg 23)),
  ip 25 (pBin .add (tg 24) (cv (.int .i64 1))),
  ip 26 (pIaddrS 1 (tg 20) (tg 22)),
  im0 3 (mStore 1 (tg 26) (tg 25))]
@[simp] def o_k_once_7_ap := ops_rule (c := o_k_once_7) rfl
def c_k_once_2 : SC := sCond (tg 19) (sReg (seqI o_k_once_7)) sSkip
@[simp] def c_k_once_2_ap := cond_rule (c := c_k_once_2) rfl
def c_k_once_3 : SC := sSeq (sReg (seqI o_k_once_6)) c_k_once_2
@[simp] def c_k_once_3_ap := seq_rule (c := c_k_once_3) rfl
def o_k_once_8 : List IS := [ip 27 (pFaddr 0 (tg 5)),
  il 28 (tg 27) (mLoad1 (tg 27)),
  ip 29 (pBin .geq (tg 28) (cv (.int .i64 6)))]
@[simp] def o_k_once_8_ap := ops_rule (c := o_k_once_8) rfl
def o_k_once_9 : List IS := [ip 30 (pMov (tg 3)),
  ip 31 (pFaddr 3 (tg 5)),
  il 32 (tg 31) (mLoad1 (tg 31)),
  ip 33 (pIaddrS 1 (tg 30) (tg 32)),
  il 34 (tg 33) (mLoad1 (tg 33)),
  ip 35 (pBin .add (tg 34) (cv (.int .i64 1))),
  ip 36 (pIaddrS 1 (tg 30) (tg 32)),
  im0 3 (mStore 1 (tg 36) (tg 35))]
@[simp] def o_k_once_9_ap := ops_rule (c := o_k_once_9) rfl
def c_k_once_4 : SC := sCond (tg 29) (sReg (seqI o_k_once_9)) sSkip
@[simp] def c_k_once_4_ap := cond_rule (c := c_k_once_4) rfl
def c_k_once_5 : SC := sSeq (sReg (seqI o_k_once_8)) c_k_once_4
@[simp] def c_k_once_5_ap := seq_rule (c := c_k_once_5) rfl
def c_k_once_6 : SC := sSeq c_k_once_3 c_k_once_5
@[simp] def c_k_once_6_ap := seq_rule (c := c_k_once_6) rfl
def c_k_once_7 : SC := sSeq (sReg (seqI o_k_once_5)) c_k_once_6
@[simp] def c_k_once_7_ap := seq_rule (c := c_k_once_7) rfl
def c_k_once_8 : SC := sBlock 1 c_k_once_7
@[simp] def c_k_once_8_ap := block_rule (c := c_k_once_8) rfl
def o_k_once_10 : List IS := [ip 37 (pBin .add (tg 13) (cv (.int .i64 1))),
  ip 13 (pMov (tg 37))]
@[simp] def o_k_once_10_ap := ops_rule (c := o_k_once_10) rfl
def c_k_once_9 : SC := sSeq c_k_once_8 (sReg (seqI o_k_once_10))
@[simp] def c_k_once_9_ap := seq_rule (c := c_k_once_9) rfl
def c_k_once_10 : SC := sSeq c_k_once_1 c_k_once_9
@[simp] def c_k_once_10_ap := seq_rule (c := c_k_once_10) rfl
def c_k_once_11 : SC := sSeq (sReg (seqI o_k_once_4)) c_k_once_10
@[simp] def c_k_once_11_ap := seq_rule (c := c_k_once_11) rfl
def c_k_once_12 : SC := sLoop c_k_once_11
def c_k_once_13 : SC := sBlock 0 c_k_once_12
@[simp] def c_k_once_13_ap := block_rule (c := c_k_once_13) rfl
def c_k_once_14 : SC := sSeq (sReg (seqI o_k_once_3)) c_k_once_13
@[simp] def c_k_once_14_ap := seq_rule (c := c_k_once_14) rfl
def o_k_once_11 : List IS := [ip 38 (pMov (tg 3)),
  ip 39 (pLen (tg 38)),
  ip 40 (pMov (cv (.int .i64 0)))]
@[simp] def o_k_once_11_ap := ops_rule (c := o_k_once_11) rfl
def o_k_once_12 : List IS := [ip 41 (pBin .lss (tg 40) (tg 39))]
@[simp] def o_k_once_12_ap := ops_rule (c := o_k_once_12) rfl
def c_k_once_15 : SC := sCond (tg 41) sSkip (sExit 2)
@[simp] def c_k_once_15_ap := cond_rule (c := c_k_once_15) rfl
def o_k_once_13 : List IS := [ip 42 (pMov (tg 40)),
  ip 43 (pIaddrS 1 (tg 38) (tg 40)),
  il 44 (tg 43) (mLoad1 (tg 43)),
  ip 6 (pMov (tg 42)),
  ip 7 (pMov (tg 44))]
@[simp] def o_k_once_13_ap := ops_rule (c := o_k_once_13) rfl
def o_k_once_14 : List IS := [ip 45 (pMov (tg 7)),
  ip 46 (pBin .eql (tg 45) (cv (.int .i64 1))),
  ip 47 (pMov (tg 6)),
  ip 48 (pMov (tg 0)),
  ip 49 (pLen (tg 48)),
  ip 50 (pBin .sub (tg 49) (cv (.int .i64 1))),
  ip 51 (pBin .lss (tg 47) (tg 50)),
  ip 52 (pEqB true (tg 46) (tg 51)),
  ip 53 (pMov (tg 52)),
  gd 53 false (some 54) (ip 54 (pMov (tg 7))),
  gd 53 false (some 55) (ip 55 (pBin .gtr (tg 54) (cv (.int .i64 1)))),
  ip 56 (pPick (tg 53) (cv (.bool true)) (tg 55))]
@[simp] def o_k_once_14_ap := ops_rule (c := o_k_once_14) rfl
def o_k_once_15 : List IS := [ip 2 (pMov (cv (.bool false)))]
@[simp] def o_k_once_15_ap := ops_rule (c := o_k_once_15) rfl
def c_k_once_16 : SC := sSeq (sReg (seqI o_k_once_15)) sRet
@[simp] def c_k_once_16_ap := seq_rule (c := c_k_once_16) rfl
def c_k_once_17 : SC := sCond (tg 56) c_k_once_16 sSkip
@[simp] def c_k_once_17_ap := cond_rule (c := c_k_once_17) rfl
def c_k_once_18 : SC := sSeq (sReg (seqI o_k_once_14)) c_k_once_17
@[simp] def c_k_once_18_ap := seq_rule (c := c_k_once_18) rfl
def c_k_once_19 : SC := sSeq (sReg (seqI o_k_once_13)) c_k_once_18
@[simp] def c_k_once_19_ap := seq_rule (c := c_k_once_19) rfl
def c_k_once_20 : SC := sBlock 3 c_k_once_19
@[simp] def c_k_once_20_ap := block_rule (c := c_k_once_20) rfl
def o_k_once_16 : List IS := [ip 57 (pBin .add (tg 40) (cv (.int .i64 1))),
  ip 40 (pMov (tg 57))]
@[simp] def o_k_once_16_ap := ops_rule (c := o_k_once_16) rfl
def c_k_once_21 : SC := sSeq c_k_once_20 (sReg (seqI o_k_once_16))
@[simp] def c_k_once_21_ap := seq_rule (c := c_k_once_21) rfl
def c_k_once_22 : SC := sSeq c_k_once_15 c_k_once_21
@[simp] def c_k_once_22_ap := seq_rule (c := c_k_once_22) rfl
def c_k_once_23 : SC := sSeq (sReg (seqI o_k_once_12)) c_k_once_22
@[simp] def c_k_once_23_ap := seq_rule (c := c_k_once_23) rfl
def c_k_once_24 : SC := sLoop c_k_once_23
def c_k_once_25 : SC := sBlock 2 c_k_once_24
@[simp] def c_k_once_25_ap := block_rule (c := c_k_once_25) rfl
def c_k_once_26 : SC := sSeq (sReg (seqI o_k_once_11)) c_k_once_25
@[simp] def c_k_once_26_ap := seq_rule (c := c_k_once_26) rfl
def o_k_once_17 : List IS := [ip 2 (pMov (cv (.bool true)))]
@[simp] def o_k_once_17_ap := ops_rule (c := o_k_once_17) rfl
def c_k_once_27 : SC := sSeq (sReg (seqI o_k_once_17)) sRet
@[simp] def c_k_once_27_ap := seq_rule (c := c_k_once_27) rfl
def c_k_once_28 : SC := sSeq c_k_once_26 c_k_once_27
@[simp] def c_k_once_28_ap := seq_rule (c := c_k_once_28) rfl
def c_k_once_29 : SC := sSeq c_k_once_14 c_k_once_28
@[simp] def c_k_once_29_ap := seq_rule (c := c_k_once_29) rfl
def c_k_once_30 : SC := sSeq (sReg (seqI o_k_once_2)) c_k_once_29
@[simp] def c_k_once_30_ap := seq_rule (c := c_k_once_30) rfl
def c_k_once_31 : SC := sSeq (sReg (seqI o_k_once_1)) c_k_once_30
@[simp] def c_k_once_31_ap := seq_rule (c := c_k_once_31) rfl
def d_k_once : DFn := ⟨c_k_once_31, 58, [.t 2]⟩
theorem d_k_once_ok : fnOf Try.prog 84 = some d_k_once := by kernel_rfl
end
end Go.Sx
