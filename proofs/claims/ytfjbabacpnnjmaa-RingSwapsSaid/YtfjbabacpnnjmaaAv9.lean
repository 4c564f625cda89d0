/- A logic of small values, and walks in it: The code of some functions in few words, and that it is the program's. Printed by a program. -/
import Derived.Test.YtfjbabacpnnjmaaAv8
import Derived.Test.YtfjbabacpnnjmaaProg
import Derived.KernelRfl
set_option linter.unusedVariables false
set_option linter.unusedSimpArgs false
set_option linter.deprecated false
namespace Go.Proofs.Ytfjbabacpnnjmaa.Av
open Go Go.Av

/-! parquetry/parquetrylaw21.RingReduces -/
def c3 : C :=
 (.seq (.reg [⟨some 4, none, .mv (.k (.bool false))⟩])
 (.seq (.reg [⟨some 5, none, .mv (.t 0)⟩, ⟨some 6, none, .mv (.t 1)⟩, ⟨some 7, none, .call true 14 [(.t 5), (.t 6)]⟩, ⟨some 8, none, .mv (.t 7)⟩, ⟨some 9, (some (8, true)), .call true 15 []⟩, ⟨some 10, none, .pk (.t 8) (.t 9) (.k (.bool false))⟩, ⟨some 4, none, .mv (.t 10)⟩])
 .ret))
/-! parquetry/parquetrylaw21.RingGathers -/
def c4 : C :=
 (.seq (.reg [⟨some 4, none, .mv (.k (.bool false))⟩])
 (.seq (.reg [⟨some 5, none, .mv (.t 0)⟩, ⟨some 6, none, .mv (.t 1)⟩, ⟨some 7, none, .call true 16 [(.t 5), (.t 6)]⟩, ⟨some 8, none, .mv (.t 7)⟩, ⟨some 9, (some (8, true)), .call true 15 []⟩, ⟨some 10, none, .pk (.t 8) (.t 9) (.k (.bool false))⟩, ⟨some 4, none, .mv (.t 10)⟩])
 .ret))
/-! parquetry/parquetrylaw21.RingSwaps -/
def c9 : C :=
 (.seq (.reg [⟨some 2, none, .mv (.k (.bool false))⟩])
 (.seq (.reg [⟨some 3, none, .mv (.t 0)⟩, ⟨some 4, none, .call true 33 [(.t 3)]⟩, ⟨some 5, none, .mv (.t 4)⟩, ⟨some 6, (some (5, true)), .call true 15 []⟩, ⟨some 7, none, .pk (.t 5) (.t 6) (.k (.bool false))⟩, ⟨some 2, none, .mv (.t 7)⟩])
 .ret))
set_option maxRecDepth 100000 in
theorem er9 : (Try.f9.body.bind (erC Try.prog cfg 8)) = some c9 := by kernel_rfl
theorem in9 {args : List AV} {σ : St} {Q : AV → St → Prop} (hlen : args.length ≤ 8) (h : σ.Wf → (∀ i, i < args.length → Hab (args.getD i .undef)) → SWP Try.prog σ.next c9 (retQ σ.next [.t 2] Q) (fun i => args.getD i .undef) σ) : TQ Try.prog 9 args σ Q := by
 obtain ⟨k, hb, hk⟩ := Option.bind_eq_some_iff.1 er9
 exact TQ_of (fn := Try.f9) Try.func9 (by kernel_rfl) hb (erC_is mixed hk) (by kernel_rfl) hlen h

/-! parquetry/parquetrylaw21.RingCasts -/
/-! parquetry/parquetrylaw21.RingRefuses -/
/-! parquetry/parquetrylaw21.RingRows -/
def c12 : C :=
 (.seq (.reg [⟨some 6, none, .mv (.k (.bool false))⟩])
 (.seq (.reg [⟨some 23, none, .mv (.t 0)⟩, ⟨some 24, none, .bd [.nils, .int .i64 0] [(0, 1, (.t 23))]⟩, ⟨some 25, none, .bx (.t 24)⟩, ⟨some 7, none, .mv (.t 25)⟩])
 (.seq (.reg [⟨some 26, none, .mv (.t 7)⟩, ⟨some 27, none, .mv (.t 7)⟩, ⟨some 28, none, .call false 38 [(.t 27)]⟩, ⟨some 29, none, .bs false 1 [.lit 1 []] 1 [(0, (.t 28))]⟩, ⟨some 30, none, .call false 37 [(.t 26), (.k (.int .i64 1)), (.t 29)]⟩, ⟨some 8, none, .mv (.t 30)⟩])
 (.seq (.seq (.reg [⟨some 31, none, .mv (.t 8)⟩, ⟨some 32, none, .bin .eql 2 (.t 31) (.k (.nilp))⟩])
 (.cond (.t 32)
  (.seq (.reg [⟨some 6, none, .mv (.k (.bool false))⟩])
  .ret)
  .skip))
 (.seq (.reg [⟨some 33, none, .mv (.t 8)⟩, ⟨some 34, none, .nc (.t 33)⟩, ⟨some 35, none, .fa 2 (.t 34)⟩, ⟨some 36, none, .ld none (.t 35)⟩, ⟨some 37, none, .ln false (.t 36)⟩, ⟨some 9, none, .mv (.t 37)⟩])
 (.seq (.reg [⟨some 38, none, .mv (.t 1)⟩, ⟨some 39, none, .bin .rem 0 (.t 38) (.k (.int .i64 9))⟩, ⟨some 10, none, .mv (.t 39)⟩])
 (.seq (.reg [⟨some 41, none, .mv (.t 8)⟩, ⟨some 42, none, .nc (.t 41)⟩, ⟨some 43, none, .fa 0 (.t 42)⟩, ⟨some 44, none, .ld none (.t 43)⟩, ⟨some 45, none, .mv (.t 8)⟩, ⟨some 46, none, .nc (.t 45)⟩, ⟨some 47, none, .fa 2 (.t 46)⟩, ⟨some 48, none, .ld none (.t 47)⟩, ⟨some 49, none, .mv (.t 9)⟩, ⟨some 50, none, .call true 40 [(.t 49)]⟩, ⟨some 51, none, .mv (.t 10)⟩, ⟨some 52, none, .call false 39 [(.t 44), (.t 48), (.t 50), (.t 51)]⟩, ⟨some 40, none, .mv (.t 52)⟩, ⟨some 53, none, .ex (.t 40) 0⟩, ⟨some 54, none, .ex (.t 40) 1⟩, ⟨some 11, none, .mv (.t 53)⟩, ⟨some 12, none, .mv (.t 54)⟩])
 (.seq (.reg [⟨some 56, none, .mv (.t 8)⟩, ⟨some 57, none, .nc (.t 56)⟩, ⟨some 58, none, .fa 0 (.t 57)⟩, ⟨some 59, none, .ld none (.t 58)⟩, ⟨some 60, none, .mv (.t 8)⟩, ⟨some 61, none, .nc (.t 60)⟩, ⟨some 62, none, .fa 2 (.t 61)⟩, ⟨some 63, none, .ld none (.t 62)⟩, ⟨some 64, none, .mv (.t 11)⟩, ⟨some 65, none, .mv (.t 10)⟩, ⟨some 66, none, .un .neg (.t 65)⟩, ⟨some 67, none, .call false 39 [(.t 59), (.t 63), (.t 64), (.t 66)]⟩, ⟨some 55, none, .mv (.t 67)⟩, ⟨some 68, none, .ex (.t 55) 0⟩, ⟨some 69, none, .ex (.t 55) 1⟩, ⟨some 13, none, .mv (.t 68)⟩, ⟨some 14, none, .mv (.t 69)⟩])
 (.seq (.reg [⟨some 71, none, .mv (.t 8)⟩, ⟨some 72, none, .nc (.t 71)⟩, ⟨some 73, none, .fa 0 (.t 72)⟩, ⟨some 74, none, .ld none (.t 73)⟩, ⟨some 75, none, .mv (.t 8)⟩, ⟨some 76, none, .nc (.t 75)⟩, ⟨some 77, none, .fa 2 (.t 76)⟩, ⟨some 78, none, .ld none (.t 77)⟩, ⟨some 79, none, .mv (.t 13)⟩, ⟨some 80, none, .mv (.t 2)⟩, ⟨some 81, none, .bin .and 0 (.t 80) (.k (.int .i64 3))⟩, ⟨some 82, none, .bin .add 0 (.k (.int .i64 1)) (.t 81)⟩, ⟨some 83, none, .call false 41 [(.t 74), (.t 78), (.t 79), (.t 82)]⟩, ⟨some 70, none, .mv (.t 83)⟩, ⟨some 84, none, .ex (.t 70) 0⟩, ⟨some 85, none, .ex (.t 70) 1⟩, ⟨some 15, none, .mv (.t 84)⟩, ⟨some 16, none, .mv (.t 85)⟩])
 (.seq (.reg [⟨some 87, none, .mv (.t 8)⟩, ⟨some 88, none, .nc (.t 87)⟩, ⟨some 89, none, .fa 0 (.t 88)⟩, ⟨some 90, none, .ld none (.t 89)⟩, ⟨some 91, none, .mv (.t 8)⟩, ⟨some 92, none, .nc (.t 91)⟩, ⟨some 93, none, .fa 2 (.t 92)⟩, ⟨some 94, none, .ld none (.t 93)⟩, ⟨some 95, none, .mv (.t 15)⟩, ⟨some 96, none, .mv (.t 9)⟩, ⟨some 97, none, .bin .sub 0 (.t 96) (.k (.int .i64 1))⟩, ⟨some 98, none, .call false 42 [(.t 90), (.t 94), (.t 95), (.t 97)]⟩, ⟨some 86, none, .mv (.t 98)⟩, ⟨some 99, none, .ex (.t 86) 0⟩, ⟨some 100, none, .ex (.t 86) 1⟩, ⟨some 17, none, .mv (.t 99)⟩, ⟨some 18, none, .mv (.t 100)⟩])
 (.seq (.reg [⟨some 102, none, .mv (.t 8)⟩, ⟨some 103, none, .nc (.t 102)⟩, ⟨some 104, none, .fa 0 (.t 103)⟩, ⟨some 105, none, .ld none (.t 104)⟩, ⟨some 106, none, .call true 27 [(.t 105)]⟩, ⟨some 107, none, .mv (.t 8)⟩, ⟨some 108, none, .nc (.t 107)⟩, ⟨some 109, none, .fa 1 (.t 108)⟩, ⟨some 110, none, .ld none (.t 109)⟩, ⟨some 111, none, .call false 43 [(.t 106), (.t 110)]⟩, ⟨some 101, none, .mv (.t 111)⟩, ⟨some 112, none, .ex (.t 101) 0⟩, ⟨some 113, none, .ex (.t 101) 1⟩, ⟨some 19, none, .mv (.t 112)⟩, ⟨some 20, none, .mv (.t 113)⟩])
 (.seq (.seq (.reg [⟨some 114, none, .mv (.t 12)⟩, ⟨some 115, none, .bin .neq 0 (.t 114) (.k (.int .i64 0))⟩, ⟨some 116, none, .mv (.t 115)⟩, ⟨some 117, (some (116, false)), .mv (.t 14)⟩, ⟨some 118, (some (116, false)), .bin .neq 0 (.t 117) (.k (.int .i64 0))⟩, ⟨some 119, none, .pk (.t 116) (.k (.bool true)) (.t 118)⟩, ⟨some 120, none, .mv (.t 119)⟩, ⟨some 121, (some (120, false)), .mv (.t 16)⟩, ⟨some 122, (some (120, false)), .bin .neq 0 (.t 121) (.k (.int .i64 0))⟩, ⟨some 123, none, .pk (.t 120) (.k (.bool true)) (.t 122)⟩, ⟨some 124, none, .mv (.t 123)⟩, ⟨some 125, (some (124, false)), .mv (.t 18)⟩, ⟨some 126, (some (124, false)), .bin .neq 0 (.t 125) (.k (.int .i64 0))⟩, ⟨some 127, none, .pk (.t 124) (.k (.bool true)) (.t 126)⟩, ⟨some 128, none, .mv (.t 127)⟩, ⟨some 129, (some (128, false)), .mv (.t 20)⟩, ⟨some 130, (some (128, false)), .un .not (.t 129)⟩, ⟨some 131, none, .pk (.t 128) (.k (.bool true)) (.t 130)⟩, ⟨some 132, none, .mv (.t 131)⟩, ⟨some 133, (some (132, false)), .mv (.t 13)⟩, ⟨some 134, (some (132, false)), .ln false (.t 133)⟩, ⟨some 135, (some (132, false)), .mv (.t 9)⟩, ⟨some 136, (some (132, false)), .bin .neq 0 (.t 134) (.t 135)⟩, ⟨some 137, none, .pk (.t 132) (.k (.bool true)) (.t 136)⟩, ⟨some 138, none, .mv (.t 137)⟩, ⟨some 139, (some (138, false)), .mv (.t 15)⟩, ⟨some 140, (some (138, false)), .ln false (.t 139)⟩, ⟨some 141, (some (138, false)), .mv (.t 9)⟩, ⟨some 142, (some (138, false)), .bin .neq 0 (.t 140) (.t 141)⟩, ⟨some 143, none, .pk (.t 138) (.k (.bool true)) (.t 142)⟩, ⟨some 144, none, .mv (.t 143)⟩, ⟨some 145, (some (144, false)), .mv (.t 17)⟩, ⟨some 146, (some (144, false)), .ln false (.t 145)⟩, ⟨some 147, (some (144, false)), .mv (.t 9)⟩, ⟨some 148, (some (144, false)), .bin .neq 0 (.t 146) (.t 147)⟩, ⟨some 149, none, .pk (.t 144) (.k (.bool true)) (.t 148)⟩])
 (.cond (.t 149)
  (.seq (.reg [⟨some 6, none, .mv (.k (.bool false))⟩])
  .ret)
  .skip))
 (.seq (.seq (.reg [⟨some 150, none, .mv (.t 8)⟩, ⟨some 151, none, .nc (.t 150)⟩, ⟨some 152, none, .fa 2 (.t 151)⟩, ⟨some 153, none, .ld none (.t 152)⟩, ⟨some 154, none, .ln false (.t 153)⟩, ⟨some 155, none, .mv (.k (.int .i64 0))⟩])
 (.block 0
  (.loop
   (.seq (.reg [⟨some 156, none, .bin .lss 0 (.t 155) (.t 154)⟩])
   (.seq (.cond (.t 156)
    .skip
    (.exit 0))
   (.seq (.block 1
    (.seq (.reg [⟨some 157, none, .mv (.t 155)⟩, ⟨some 158, none, .ia 1 (.t 153) (.t 155)⟩, ⟨some 159, none, .ld none (.t 158)⟩, ⟨some 21, none, .mv (.t 157)⟩, ⟨some 22, none, .mv (.t 159)⟩])
    (.seq (.drs [⟨some 160, none, .mv (.t 19)⟩, ⟨some 161, none, .nc (.t 160)⟩, ⟨some 162, none, .fa 2 (.t 161)⟩, ⟨some 163, none, .ld none (.t 162)⟩, ⟨some 164, none, .mv (.t 22)⟩, ⟨some 165, none, .ia 1 (.t 163) (.t 164)⟩, ⟨some 166, none, .ld none (.t 165)⟩, ⟨some 167, none, .mv (.t 13)⟩, ⟨some 168, none, .mv (.t 21)⟩, ⟨some 169, none, .ia 1 (.t 167) (.t 168)⟩, ⟨some 170, none, .ld none (.t 169)⟩, ⟨some 171, none, .lk false none (.agg [.lit 1 [], .lit 1 []]) (.t 166) (.t 170)⟩, ⟨some 172, none, .mv (.t 8)⟩, ⟨some 173, none, .nc (.t 172)⟩, ⟨some 174, none, .fa 1 (.t 173)⟩, ⟨some 175, none, .ld none (.t 174)⟩, ⟨some 176, none, .mv (.t 22)⟩, ⟨some 177, none, .ia 1 (.t 175) (.t 176)⟩, ⟨some 178, none, .ld none (.t 177)⟩, ⟨some 179, none, .ia 2 (.t 178) (.k (.int .i64 0))⟩, ⟨some 180, none, .ld (some 2) (.t 179)⟩, ⟨some 181, none, .call true 44 [(.t 171), (.t 180)]⟩, ⟨some 182, none, .un .not (.t 181)⟩, ⟨some 183, none, .mv (.t 182)⟩, ⟨some 184, (some (183, false)), .mv (.t 19)⟩, ⟨some 185, (some (183, false)), .nc (.t 184)⟩, ⟨some 186, (some (183, false)), .fa 2 (.t 185)⟩, ⟨some 187, (some (183, false)), .ld none (.t 186)⟩, ⟨some 188, (some (183, false)), .mv (.t 22)⟩, ⟨some 189, (some (183, false)), .ia 1 (.t 187) (.t 188)⟩, ⟨some 190, (some (183, false)), .ld none (.t 189)⟩, ⟨some 191, (some (183, false)), .mv (.t 17)⟩, ⟨some 192, (some (183, false)), .mv (.t 21)⟩, ⟨some 193, (some (183, false)), .ia 1 (.t 191) (.t 192)⟩, ⟨some 194, (some (183, false)), .ld none (.t 193)⟩, ⟨some 195, (some (183, false)), .lk false none (.agg [.lit 1 [], .lit 1 []]) (.t 190) (.t 194)⟩, ⟨some 196, (some (183, false)), .mv (.t 19)⟩, ⟨some 197, (some (183, false)), .nc (.t 196)⟩, ⟨some 198, (some (183, false)), .fa 2 (.t 197)⟩, ⟨some 199, (some (183, false)), .ld none (.t 198)⟩, ⟨some 200, (some (183, false)), .mv (.t 22)⟩, ⟨some 201, (some (183, false)), .ia 1 (.t 199) (.t 200)⟩, ⟨some 202, (some (183, false)), .ld none (.t 201)⟩, ⟨some 203, (some (183, false)), .mv (.t 15)⟩, ⟨some 204, (some (183, false)), .mv (.t 21)⟩, ⟨some 205, (some (183, false)), .ia 1 (.t 203) (.t 204)⟩, ⟨some 206, (some (183, false)), .ld none (.t 205)⟩, ⟨some 207, (some (183, false)), .lk false none (.agg [.lit 1 [], .lit 1 []]) (.t 202) (.t 206)⟩, ⟨some 208, (some (183, false)), .call true 44 [(.t 195), (.t 207)]⟩, ⟨some 209, (some (183, false)), .un .not (.t 208)⟩, ⟨some 210, none, .pk (.t 183) (.k (.bool true)) (.t 209)⟩])
    (.cond (.t 210)
     (.seq (.reg [⟨some 6, none, .mv (.k (.bool false))⟩])
     .ret)
     .skip))))
   (.reg [⟨some 211, none, .bin .add 0 (.t 155) (.k (.int .i64 1))⟩, ⟨some 155, none, .mv (.t 211)⟩])))))))
 (.seq (.reg [⟨some 212, none, .call true 15 []⟩, ⟨some 6, none, .mv (.t 212)⟩])
 .ret))))))))))))))
/-! parquetry/parquetrylaw21.reduces -/
def c14 : C :=
 (.seq (.reg [⟨some 4, none, .mv (.k (.bool false))⟩])
 (.seq (.reg [⟨some 17, none, .mv (.t 0)⟩, ⟨some 18, none, .bd [.nils, .int .i64 0] [(0, 1, (.t 17))]⟩, ⟨some 19, none, .bx (.t 18)⟩, ⟨some 5, none, .mv (.t 19)⟩])
 (.seq (.reg [⟨some 20, none, .mv (.t 5)⟩, ⟨some 21, none, .mv (.t 5)⟩, ⟨some 22, none, .call false 38 [(.t 21)]⟩, ⟨some 23, none, .bs false 1 [.lit 1 []] 1 [(0, (.t 22))]⟩, ⟨some 24, none, .call false 37 [(.t 20), (.k (.int .i64 1)), (.t 23)]⟩, ⟨some 6, none, .mv (.t 24)⟩])
 (.seq (.seq (.reg [⟨some 25, none, .mv (.t 6)⟩, ⟨some 26, none, .bin .eql 2 (.t 25) (.k (.nilp))⟩])
 (.cond (.t 26)
  (.seq (.reg [⟨some 4, none, .mv (.k (.bool false))⟩])
  .ret)
  .skip))
 (.seq (.reg [⟨some 27, none, .mv (.t 1)⟩, ⟨some 28, none, .bin .and 0 (.t 27) (.k (.int .i64 3))⟩, ⟨some 29, none, .bin .add 0 (.k (.int .i64 1)) (.t 28)⟩, ⟨some 7, none, .mv (.t 29)⟩])
 (.seq (.reg [⟨some 8, none, .al [.lit 1 [], .lit 1 []]⟩])
 (.seq (.seq (.reg [⟨some 30, none, .mv (.t 6)⟩, ⟨some 31, none, .nc (.t 30)⟩, ⟨some 32, none, .fa 2 (.t 31)⟩, ⟨some 33, none, .ld none (.t 32)⟩, ⟨some 34, none, .ln false (.t 33)⟩, ⟨some 35, none, .mv (.k (.int .i64 0))⟩])
 (.block 0
  (.loop
   (.seq (.reg [⟨some 36, none, .bin .lss 0 (.t 35) (.t 34)⟩])
   (.seq (.cond (.t 36)
    .skip
    (.exit 0))
   (.seq (.block 1
    (.seq (.reg [⟨some 37, none, .mv (.t 35)⟩, ⟨some 38, none, .ia 1 (.t 33) (.t 35)⟩, ⟨some 39, none, .ld none (.t 38)⟩, ⟨some 9, none, .mv (.t 37)⟩, ⟨some 10, none, .mv (.t 39)⟩])
    (.seq (.seq (.reg [⟨some 40, none, .mv (.t 9)⟩, ⟨some 41, none, .bin .eql 0 (.t 40) (.k (.int .i64 0))⟩])
    (.cond (.t 41)
     (.seq (.reg [⟨some 42, none, .mv (.t 6)⟩, ⟨some 43, none, .nc (.t 42)⟩, ⟨some 44, none, .fa 1 (.t 43)⟩, ⟨some 45, none, .ld none (.t 44)⟩, ⟨some 46, none, .mv (.t 10)⟩, ⟨some 47, none, .ia 1 (.t 45) (.t 46)⟩, ⟨some 48, none, .ld none (.t 47)⟩, ⟨some 49, none, .ia 2 (.t 48) (.k (.int .i64 0))⟩, ⟨some 50, none, .ld (some 2) (.t 49)⟩, ⟨none, none, .st 2 (.t 8) (.t 50)⟩])
     (.exit 1))
     .skip))
    (.seq (.reg [⟨some 51, none, .fa 0 (.t 8)⟩, ⟨some 52, none, .ld none (.t 51)⟩, ⟨some 53, none, .call false 48 [(.t 52), (.k (.int .i64 0))]⟩, ⟨some 11, none, .al [.lit 1 [], .lit 1 []]⟩, ⟨none, none, .st 2 (.t 11) (.t 53)⟩])
    (.seq (.seq (.reg [⟨some 54, none, .fa 1 (.t 11)⟩, ⟨some 55, none, .ld none (.t 54)⟩, ⟨some 56, none, .ln false (.t 55)⟩, ⟨some 57, none, .mv (.k (.int .i64 0))⟩])
    (.block 2
     (.loop
      (.seq (.reg [⟨some 58, none, .bin .lss 0 (.t 57) (.t 56)⟩])
      (.seq (.cond (.t 58)
       .skip
       (.exit 2))
      (.seq (.block 3
       (.seq (.reg [⟨some 59, none, .mv (.t 57)⟩, ⟨some 12, none, .mv (.t 59)⟩])
       (.drs [⟨some 60, none, .fa 1 (.t 11)⟩, ⟨some 61, none, .ld none (.t 60)⟩, ⟨some 62, none, .mv (.t 12)⟩, ⟨some 63, none, .mv (.t 7)⟩, ⟨some 64, none, .fa 1 (.t 8)⟩, ⟨some 65, none, .ld none (.t 64)⟩, ⟨some 66, none, .mv (.t 12)⟩, ⟨some 67, none, .ia 1 (.t 65) (.t 66)⟩, ⟨some 68, none, .ld none (.t 67)⟩, ⟨some 69, none, .mv (.t 6)⟩, ⟨some 70, none, .nc (.t 69)⟩, ⟨some 71, none, .fa 1 (.t 70)⟩, ⟨some 72, none, .ld none (.t 71)⟩, ⟨some 73, none, .mv (.t 10)⟩, ⟨some 74, none, .ia 1 (.t 72) (.t 73)⟩, ⟨some 75, none, .ld none (.t 74)⟩, ⟨some 76, none, .ia 2 (.t 75) (.k (.int .i64 0))⟩, ⟨some 77, none, .fa 1 (.t 76)⟩, ⟨some 78, none, .ld none (.t 77)⟩, ⟨some 79, none, .mv (.t 12)⟩, ⟨some 80, none, .ia 1 (.t 78) (.t 79)⟩, ⟨some 81, none, .ld none (.t 80)⟩, ⟨some 82, none, .call true 49 [(.t 63), (.t 68), (.t 81)]⟩, ⟨some 83, none, .ia 1 (.t 61) (.t 62)⟩, ⟨none, none, .st 1 (.t 83) (.t 82)⟩])))
      (.reg [⟨some 84, none, .bin .add 0 (.t 57) (.k (.int .i64 1))⟩, ⟨some 57, none, .mv (.t 84)⟩])))))))
    (.reg [⟨some 85, none, .ld (some 2) (.t 11)⟩, ⟨none, none, .st 2 (.t 8) (.t 85)⟩]))))))
   (.reg [⟨some 86, none, .bin .add 0 (.t 35) (.k (.int .i64 1))⟩, ⟨some 35, none, .mv (.t 86)⟩])))))))
 (.seq (.reg [⟨some 13, none, .mv (.k (.nils))⟩])
 (.seq (.seq (.reg [⟨some 87, none, .mv (.t 6)⟩, ⟨some 88, none, .nc (.t 87)⟩, ⟨some 89, none, .fa 2 (.t 88)⟩, ⟨some 90, none, .ld none (.t 89)⟩, ⟨some 91, none, .ln false (.t 90)⟩, ⟨some 92, none, .mv (.k (.int .i64 0))⟩])
 (.block 4
  (.loop
   (.seq (.reg [⟨some 93, none, .bin .lss 0 (.t 92) (.t 91)⟩])
   (.seq (.cond (.t 93)
    .skip
    (.exit 4))
   (.seq (.block 5
    (.reg [⟨some 94, none, .mv (.t 13)⟩, ⟨some 95, none, .ld (some 2) (.t 8)⟩, ⟨some 96, none, .bs false 2 [.lit 1 [], .lit 1 []] 1 [(0, (.t 95))]⟩, ⟨some 97, none, .ap 2 48 (.t 94) (.t 96)⟩, ⟨some 13, none, .mv (.t 97)⟩]))
   (.reg [⟨some 98, none, .bin .add 0 (.t 92) (.k (.int .i64 1))⟩, ⟨some 92, none, .mv (.t 98)⟩])))))))
 (.seq (.reg [⟨some 99, none, .mv (.t 6)⟩, ⟨some 100, none, .nc (.t 99)⟩, ⟨some 101, none, .fa 0 (.t 100)⟩, ⟨some 102, none, .ld none (.t 101)⟩, ⟨some 103, none, .call true 27 [(.t 102)]⟩, ⟨some 104, none, .call true 50 [(.t 103)]⟩, ⟨some 14, none, .mv (.t 104)⟩])
 (.seq (.reg [⟨some 106, none, .mv (.t 6)⟩, ⟨some 107, none, .nc (.t 106)⟩, ⟨some 108, none, .fa 0 (.t 107)⟩, ⟨some 109, none, .ld none (.t 108)⟩, ⟨some 110, none, .mv (.t 6)⟩, ⟨some 111, none, .nc (.t 110)⟩, ⟨some 112, none, .fa 2 (.t 111)⟩, ⟨some 113, none, .ld none (.t 112)⟩, ⟨some 114, none, .mv (.t 6)⟩, ⟨some 115, none, .nc (.t 114)⟩, ⟨some 116, none, .fa 2 (.t 115)⟩, ⟨some 117, none, .ld none (.t 116)⟩, ⟨some 118, none, .ln false (.t 117)⟩, ⟨some 119, none, .call true 40 [(.t 118)]⟩, ⟨some 120, none, .mv (.t 7)⟩, ⟨some 121, none, .call false 41 [(.t 109), (.t 113), (.t 119), (.t 120)]⟩, ⟨some 105, none, .mv (.t 121)⟩, ⟨some 122, none, .ex (.t 105) 0⟩, ⟨some 123, none, .ex (.t 105) 1⟩, ⟨some 15, none, .mv (.t 122)⟩, ⟨some 16, none, .mv (.t 123)⟩])
 (.seq (.reg [⟨some 124, none, .mv (.t 6)⟩, ⟨some 125, none, .mv (.t 15)⟩, ⟨some 126, none, .mv (.t 16)⟩, ⟨some 127, none, .mv (.t 13)⟩, ⟨some 128, none, .mv (.t 14)⟩, ⟨some 129, none, .call true 51 [(.t 124), (.t 125), (.t 126), (.t 127), (.t 128)]⟩, ⟨some 4, none, .mv (.t 129)⟩])
 .ret))))))))))))
/-! parquetry/parquetrylaw21.known -/
def c15 : C :=
 (.seq (.reg [⟨some 0, none, .mv (.k (.bool false))⟩])
 (.seq (.reg [⟨some 11, none, .call false 22 [(.k (.int .i64 2))]⟩, ⟨some 1, none, .mv (.t 11)⟩])
 (.seq (.seq (.reg [⟨some 12, none, .mv (.t 1)⟩, ⟨some 13, none, .bin .eql 2 (.t 12) (.k (.nilp))⟩])
 (.cond (.t 13)
  (.seq (.reg [⟨some 0, none, .mv (.k (.bool false))⟩])
  .ret)
  .skip))
 (.seq (.seq (.reg [⟨some 2, none, .mv (.k (.int .i64 0))⟩])
 (.block 0
  (.loop
   (.seq (.seq (.reg [⟨some 14, none, .mv (.t 2)⟩, ⟨some 15, none, .bin .lss 0 (.t 14) (.k (.int .i64 2))⟩])
   (.cond (.t 15)
    .skip
    (.exit 0)))
   (.seq (.block 1
    (.reg [⟨some 18, none, .mv (.t 1)⟩, ⟨some 19, none, .mv (.t 2)⟩, ⟨some 20, none, .mv (.t 1)⟩, ⟨some 21, none, .mv (.t 2)⟩, ⟨some 22, none, .call false 23 [(.t 20), (.t 21)]⟩, ⟨some 23, none, .bd [.int .i64 0, .int .i64 0, .lit 1 [], .int .i64 0, .lit 1 [], .lit 1 [], .lit 1 [], .int .i64 0, .int .i64 0, .str ⟨#[]⟩, .int .i64 0, .int .i64 0, .int .i64 0] [(0, 1, (.k (.int .i64 1))), (1, 1, (.t 22))]⟩, ⟨some 24, none, .call false 24 [(.t 18), (.t 19), (.t 23)]⟩]))
   (.reg [⟨some 16, none, .mv (.t 2)⟩, ⟨some 17, none, .bin .add 0 (.t 16) (.k (.int .i64 1))⟩, ⟨some 2, none, .mv (.t 17)⟩]))))))
 (.seq (.reg [⟨some 26, none, .mv (.t 1)⟩, ⟨some 27, none, .bs false 1 [.int .i64 0] 2 [(0, (.k (.int .i64 1))), (1, (.k (.int .i64 0)))]⟩, ⟨some 28, none, .bs false 1 [.int .i64 0] 2 [(0, (.k (.int .i64 0))), (1, (.k (.int .i64 0)))]⟩, ⟨some 29, none, .call false 41 [(.t 26), (.t 27), (.t 28), (.k (.int .i64 1))]⟩, ⟨some 25, none, .mv (.t 29)⟩, ⟨some 30, none, .ex (.t 25) 0⟩, ⟨some 31, none, .ex (.t 25) 1⟩, ⟨some 3, none, .mv (.t 30)⟩, ⟨some 4, none, .mv (.t 31)⟩])
 (.seq (.reg [⟨some 33, none, .mv (.t 1)⟩, ⟨some 34, none, .bs false 1 [.int .i64 0] 2 [(0, (.k (.int .i64 0))), (1, (.k (.int .i64 0)))]⟩, ⟨some 35, none, .bs false 1 [.int .i64 0] 2 [(0, (.k (.int .i64 0))), (1, (.k (.int .i64 0)))]⟩, ⟨some 36, none, .call false 41 [(.t 33), (.t 34), (.t 35), (.k (.int .i64 1))]⟩, ⟨some 32, none, .mv (.t 36)⟩, ⟨some 37, none, .ex (.t 32) 0⟩, ⟨some 38, none, .ex (.t 32) 1⟩, ⟨some 5, none, .mv (.t 37)⟩, ⟨some 6, none, .mv (.t 38)⟩])
 (.seq (.reg [⟨some 40, none, .bs false 1 [.int .i64 0] 1 [(0, (.k (.int .i64 0)))]⟩, ⟨some 41, none, .bs false 1 [.int .i64 0] 1 [(0, (.k (.int .i64 0)))]⟩, ⟨some 42, none, .call false 52 [(.k (.nilp)), (.t 40), (.t 41), (.k (.int .i64 0))]⟩, ⟨some 39, none, .mv (.t 42)⟩, ⟨some 43, none, .ex (.t 39) 0⟩, ⟨some 44, none, .ex (.t 39) 1⟩, ⟨some 7, none, .mv (.t 43)⟩, ⟨some 8, none, .mv (.t 44)⟩])
 (.seq (.reg [⟨some 46, none, .mv (.t 1)⟩, ⟨some 47, none, .call true 27 [(.t 46)]⟩, ⟨some 48, none, .bs false 1 [.int .i64 0] 1 [(0, (.k (.int .i64 3)))]⟩, ⟨some 49, none, .bd [.lit 1 [], .lit 1 []] [(1, 1, (.t 48))]⟩, ⟨some 50, none, .bs false 2 [.lit 1 [], .lit 1 []] 1 [(0, (.t 49))]⟩, ⟨some 51, none, .bs false 1 [.int .i64 0] 1 [(0, (.k (.int .i64 4)))]⟩, ⟨some 52, none, .bd [.lit 1 [], .lit 1 []] [(1, 1, (.t 51))]⟩, ⟨some 53, none, .bs false 2 [.lit 1 [], .lit 1 []] 1 [(0, (.t 52))]⟩, ⟨some 54, none, .bs false 1 [.lit 1 []] 2 [(0, (.t 50)), (1, (.t 53))]⟩, ⟨some 55, none, .call false 43 [(.t 47), (.t 54)]⟩, ⟨some 45, none, .mv (.t 55)⟩, ⟨some 56, none, .ex (.t 45) 0⟩, ⟨some 57, none, .ex (.t 45) 1⟩, ⟨some 9, none, .mv (.t 56)⟩, ⟨some 10, none, .mv (.t 57)⟩])
 (.seq (.drs [⟨some 58, none, .mv (.t 4)⟩, ⟨some 59, none, .bin .eql 0 (.t 58) (.k (.int .i64 0))⟩, ⟨some 60, none, .mv (.t 59)⟩, ⟨some 61, (some (60, true)), .mv (.t 6)⟩, ⟨some 62, (some (60, true)), .bin .eql 0 (.t 61) (.k (.int .i64 1))⟩, ⟨some 63, none, .pk (.t 60) (.t 62) (.k (.bool false))⟩, ⟨some 64, none, .mv (.t 63)⟩, ⟨some 65, (some (64, true)), .mv (.t 8)⟩, ⟨some 66, (some (64, true)), .bin .eql 0 (.t 65) (.k (.int .i64 1))⟩, ⟨some 67, none, .pk (.t 64) (.t 66) (.k (.bool false))⟩, ⟨some 68, none, .mv (.t 67)⟩, ⟨some 69, (some (68, true)), .mv (.t 10)⟩, ⟨some 70, none, .pk (.t 68) (.t 69) (.k (.bool false))⟩, ⟨some 71, none, .mv (.t 70)⟩, ⟨some 72, (some (71, true)), .mv (.t 3)⟩, ⟨some 73, (some (71, true)), .ln false (.t 72)⟩, ⟨some 74, (some (71, true)), .bin .eql 0 (.t 73) (.k (.int .i64 2))⟩, ⟨some 75, none, .pk (.t 71) (.t 74) (.k (.bool false))⟩, ⟨some 76, none, .mv (.t 75)⟩, ⟨some 77, (some (76, true)), .mv (.t 9)⟩, ⟨some 78, (some (76, true)), .nc (.t 77)⟩, ⟨some 79, (some (76, true)), .fa 2 (.t 78)⟩, ⟨some 80, (some (76, true)), .ld none (.t 79)⟩, ⟨some 81, (some (76, true)), .ia 1 (.t 80) (.k (.int .i64 1))⟩, ⟨some 82, (some (76, true)), .ld none (.t 81)⟩, ⟨some 83, (some (76, true)), .mv (.t 3)⟩, ⟨some 84, (some (76, true)), .ia 1 (.t 83) (.k (.int .i64 0))⟩, ⟨some 85, (some (76, true)), .ld none (.t 84)⟩, ⟨some 86, (some (76, true)), .lk false none (.agg [.lit 1 [], .lit 1 []]) (.t 82) (.t 85)⟩, ⟨some 87, (some (76, true)), .fl 1 none (.t 86)⟩, ⟨some 88, (some (76, true)), .ln false (.t 87)⟩, ⟨some 89, (some (76, true)), .bin .eql 0 (.t 88) (.k (.int .i64 1))⟩, ⟨some 90, none, .pk (.t 76) (.t 89) (.k (.bool false))⟩, ⟨some 91, none, .mv (.t 90)⟩, ⟨some 92, (some (91, true)), .mv (.t 9)⟩, ⟨some 93, (some (91, true)), .nc (.t 92)⟩, ⟨some 94, (some (91, true)), .fa 2 (.t 93)⟩, ⟨some 95, (some (91, true)), .ld none (.t 94)⟩, ⟨some 96, (some (91, true)), .ia 1 (.t 95) (.k (.int .i64 1))⟩, ⟨some 97, (some (91, true)), .ld none (.t 96)⟩, ⟨some 98, (some (91, true)), .mv (.t 3)⟩, ⟨some 99, (some (91, true)), .ia 1 (.t 98) (.k (.int .i64 0))⟩, ⟨some 100, (some (91, true)), .ld none (.t 99)⟩, ⟨some 101, (some (91, true)), .lk false none (.agg [.lit 1 [], .lit 1 []]) (.t 97) (.t 100)⟩, ⟨some 102, (some (91, true)), .fl 1 none (.t 101)⟩, ⟨some 103, (some (91, true)), .ia 1 (.t 102) (.k (.int .i64 0))⟩, ⟨some 104, (some (91, true)), .ld none (.t 103)⟩, ⟨some 105, (some (91, true)), .bin .eql 0 (.t 104) (.k (.int .i64 7))⟩, ⟨some 106, none, .pk (.t 91) (.t 105) (.k (.bool false))⟩, ⟨some 0, none, .mv (.t 106)⟩])
 .ret)))))))))
set_option maxRecDepth 100000 in
theorem er15 : (Try.f15.body.bind (erC Try.prog cfg 107)) = some c15 := by kernel_rfl
theorem in15 {args : List AV} {σ : St} {Q : AV → St → Prop} (hlen : args.length ≤ 107) (h : σ.Wf → (∀ i, i < args.length → Hab (args.getD i .undef)) → SWP Try.prog σ.next c15 (retQ σ.next [.t 0] Q) (fun i => args.getD i .undef) σ) : TQ Try.prog 15 args σ Q := by
 obtain ⟨k, hb, hk⟩ := Option.bind_eq_some_iff.1 er15
 exact TQ_of (fn := Try.f15) Try.func15 (by kernel_rfl) hb (erC_is mixed hk) (by kernel_rfl) hlen h

/-! parquetry/parquetrylaw21.gathers -/
def c16 : C :=
 (.seq (.reg [⟨some 4, none, .mv (.k (.bool false))⟩])
 (.seq (.reg [⟨some 19, none, .mv (.t 0)⟩, ⟨some 20, none, .bd [.nils, .int .i64 0] [(0, 1, (.t 19))]⟩, ⟨some 21, none, .bx (.t 20)⟩, ⟨some 5, none, .mv (.t 21)⟩])
 (.seq (.reg [⟨some 22, none, .mv (.t 5)⟩, ⟨some 23, none, .call false 53 [(.t 22), (.k (.int .i64 3))]⟩, ⟨some 24, none, .bin .add 0 (.k (.int .i64 1)) (.t 23)⟩, ⟨some 25, none, .bs false 1 [.int .i64 0] 1 [(0, (.t 24))]⟩, ⟨some 26, none, .mv (.t 5)⟩, ⟨some 27, none, .call false 38 [(.t 26)]⟩, ⟨some 28, none, .ap 1 8 (.t 25) (.t 27)⟩, ⟨some 6, none, .mv (.t 28)⟩])
 (.seq (.seq (.reg [⟨some 29, none, .mv (.t 6)⟩, ⟨some 30, none, .ln false (.t 29)⟩, ⟨some 31, none, .bin .gtr 0 (.t 30) (.k (.int .i64 3))⟩])
 (.cond (.t 31)
  (.reg [⟨some 32, none, .mv (.t 6)⟩, ⟨some 33, none, .sc 1 (.t 32) none (some (.k (.int .i64 3))) none⟩, ⟨some 6, none, .mv (.t 33)⟩])
  .skip))
 (.seq (.reg [⟨some 34, none, .mv (.t 1)⟩, ⟨some 35, none, .mv (.t 6)⟩, ⟨some 36, none, .ln false (.t 35)⟩, ⟨some 37, none, .bin .rem 0 (.t 34) (.t 36)⟩, ⟨some 38, none, .mv (.t 6)⟩, ⟨some 39, none, .ln false (.t 38)⟩, ⟨some 40, none, .bin .add 0 (.t 37) (.t 39)⟩, ⟨some 41, none, .mv (.t 6)⟩, ⟨some 42, none, .ln false (.t 41)⟩, ⟨some 43, none, .bin .rem 0 (.t 40) (.t 42)⟩, ⟨some 7, none, .mv (.t 43)⟩])
 (.seq (.reg [⟨some 44, none, .bs false 1 [.int .i64 0] 0 []⟩, ⟨some 45, none, .mv (.t 6)⟩, ⟨some 46, none, .ap 1 8 (.t 44) (.t 45)⟩, ⟨some 8, none, .mv (.t 46)⟩])
 (.seq (.reg [⟨some 47, none, .mv (.t 8)⟩, ⟨some 48, none, .mv (.t 7)⟩, ⟨some 49, none, .mv (.t 5)⟩, ⟨some 50, none, .call false 53 [(.t 49), (.k (.int .i64 3))]⟩, ⟨some 51, none, .ia 1 (.t 47) (.t 48)⟩, ⟨none, none, .st 1 (.t 51) (.t 50)⟩])
 (.seq (.reg [⟨some 52, none, .mv (.t 5)⟩, ⟨some 53, none, .mv (.t 6)⟩, ⟨some 54, none, .mv (.t 8)⟩, ⟨some 55, none, .bs false 1 [.lit 1 []] 2 [(0, (.t 53)), (1, (.t 54))]⟩, ⟨some 56, none, .call false 37 [(.t 52), (.k (.int .i64 1)), (.t 55)]⟩, ⟨some 9, none, .mv (.t 56)⟩])
 (.seq (.seq (.reg [⟨some 57, none, .mv (.t 9)⟩, ⟨some 58, none, .bin .eql 2 (.t 57) (.k (.nilp))⟩])
 (.cond (.t 58)
  (.seq (.reg [⟨some 4, none, .mv (.k (.bool false))⟩])
  .ret)
  .skip))
 (.seq (.reg [⟨some 10, none, .mv (.k (.nils))⟩])
 (.seq (.seq (.reg [⟨some 59, none, .mv (.t 9)⟩, ⟨some 60, none, .nc (.t 59)⟩, ⟨some 61, none, .fa 2 (.t 60)⟩, ⟨some 62, none, .ld none (.t 61)⟩, ⟨some 63, none, .ln false (.t 62)⟩, ⟨some 64, none, .mv (.k (.int .i64 0))⟩])
 (.block 0
  (.loop
   (.seq (.reg [⟨some 65, none, .bin .lss 0 (.t 64) (.t 63)⟩])
   (.seq (.cond (.t 65)
    .skip
    (.exit 0))
   (.seq (.block 1
    (.seq (.reg [⟨some 66, none, .ia 1 (.t 62) (.t 64)⟩, ⟨some 67, none, .ld none (.t 66)⟩, ⟨some 12, none, .mv (.t 67)⟩])
    (.reg [⟨some 68, none, .mv (.t 10)⟩, ⟨some 69, none, .mv (.t 9)⟩, ⟨some 70, none, .nc (.t 69)⟩, ⟨some 71, none, .fa 1 (.t 70)⟩, ⟨some 72, none, .ld none (.t 71)⟩, ⟨some 73, none, .mv (.t 12)⟩, ⟨some 74, none, .ia 1 (.t 72) (.t 73)⟩, ⟨some 75, none, .ld none (.t 74)⟩, ⟨some 76, none, .ia 2 (.t 75) (.k (.int .i64 0))⟩, ⟨some 77, none, .ld (some 2) (.t 76)⟩, ⟨some 78, none, .bs false 2 [.lit 1 [], .lit 1 []] 1 [(0, (.t 77))]⟩, ⟨some 79, none, .ap 2 48 (.t 68) (.t 78)⟩, ⟨some 10, none, .mv (.t 79)⟩])))
   (.reg [⟨some 80, none, .bin .add 0 (.t 64) (.k (.int .i64 1))⟩, ⟨some 64, none, .mv (.t 80)⟩])))))))
 (.seq (.reg [⟨some 82, none, .mv (.t 7)⟩, ⟨some 83, none, .mv (.t 10)⟩, ⟨some 84, none, .call true 54 [(.t 82), (.t 83)]⟩, ⟨some 81, none, .mv (.t 84)⟩, ⟨some 85, none, .ex (.t 81) 0⟩, ⟨some 86, none, .ex (.t 81) 1⟩, ⟨some 13, none, .al [.lit 1 [], .lit 1 []]⟩, ⟨none, none, .st 2 (.t 13) (.t 85)⟩, ⟨some 14, none, .mv (.t 86)⟩])
 (.seq (.seq (.reg [⟨some 87, none, .mv (.t 14)⟩, ⟨some 88, none, .bin .neq 0 (.t 87) (.k (.int .i64 0))⟩])
 (.cond (.t 88)
  (.seq (.reg [⟨some 4, none, .mv (.k (.bool true))⟩])
  .ret)
  .skip))
 (.seq (.reg [⟨some 15, none, .mv (.k (.nils))⟩])
 (.seq (.seq (.reg [⟨some 89, none, .mv (.t 9)⟩, ⟨some 90, none, .nc (.t 89)⟩, ⟨some 91, none, .fa 2 (.t 90)⟩, ⟨some 92, none, .ld none (.t 91)⟩, ⟨some 93, none, .ln false (.t 92)⟩, ⟨some 94, none, .mv (.k (.int .i64 0))⟩])
 (.block 2
  (.loop
   (.seq (.reg [⟨some 95, none, .bin .lss 0 (.t 94) (.t 93)⟩])
   (.seq (.cond (.t 95)
    .skip
    (.exit 2))
   (.seq (.block 3
    (.reg [⟨some 96, none, .mv (.t 15)⟩, ⟨some 97, none, .ld (some 2) (.t 13)⟩, ⟨some 98, none, .bs false 2 [.lit 1 [], .lit 1 []] 1 [(0, (.t 97))]⟩, ⟨some 99, none, .ap 2 48 (.t 96) (.t 98)⟩, ⟨some 15, none, .mv (.t 99)⟩]))
   (.reg [⟨some 100, none, .bin .add 0 (.t 94) (.k (.int .i64 1))⟩, ⟨some 94, none, .mv (.t 100)⟩])))))))
 (.seq (.reg [⟨some 101, none, .mv (.t 9)⟩, ⟨some 102, none, .nc (.t 101)⟩, ⟨some 103, none, .fa 0 (.t 102)⟩, ⟨some 104, none, .ld none (.t 103)⟩, ⟨some 105, none, .call true 27 [(.t 104)]⟩, ⟨some 106, none, .call true 50 [(.t 105)]⟩, ⟨some 16, none, .mv (.t 106)⟩])
 (.seq (.reg [⟨some 108, none, .mv (.t 9)⟩, ⟨some 109, none, .nc (.t 108)⟩, ⟨some 110, none, .fa 0 (.t 109)⟩, ⟨some 111, none, .ld none (.t 110)⟩, ⟨some 112, none, .mv (.t 9)⟩, ⟨some 113, none, .nc (.t 112)⟩, ⟨some 114, none, .fa 2 (.t 113)⟩, ⟨some 115, none, .ld none (.t 114)⟩, ⟨some 116, none, .mv (.t 9)⟩, ⟨some 117, none, .nc (.t 116)⟩, ⟨some 118, none, .fa 2 (.t 117)⟩, ⟨some 119, none, .ld none (.t 118)⟩, ⟨some 120, none, .ln false (.t 119)⟩, ⟨some 121, none, .call true 40 [(.t 120)]⟩, ⟨some 122, none, .mv (.t 7)⟩, ⟨some 123, none, .call false 52 [(.t 111), (.t 115), (.t 121), (.t 122)]⟩, ⟨some 107, none, .mv (.t 123)⟩, ⟨some 124, none, .ex (.t 107) 0⟩, ⟨some 125, none, .ex (.t 107) 1⟩, ⟨some 17, none, .mv (.t 124)⟩, ⟨some 18, none, .mv (.t 125)⟩])
 (.seq (.reg [⟨some 126, none, .mv (.t 9)⟩, ⟨some 127, none, .mv (.t 17)⟩, ⟨some 128, none, .mv (.t 18)⟩, ⟨some 129, none, .mv (.t 15)⟩, ⟨some 130, none, .mv (.t 16)⟩, ⟨some 131, none, .call true 51 [(.t 126), (.t 127), (.t 128), (.t 129), (.t 130)]⟩, ⟨some 4, none, .mv (.t 131)⟩])
 .ret))))))))))))))))))
/-! parquetry/parquetrylaw21.swaps -/
def c33 : C :=
 (.seq (.reg [⟨some 2, none, .mv (.k (.bool false))⟩])
 (.seq (.reg [⟨some 17, none, .mv (.t 0)⟩, ⟨some 18, none, .bd [.nils, .int .i64 0] [(0, 1, (.t 17))]⟩, ⟨some 19, none, .bx (.t 18)⟩, ⟨some 3, none, .mv (.t 19)⟩])
 (.seq (.reg [⟨some 20, none, .mv (.t 3)⟩, ⟨some 21, none, .mv (.t 3)⟩, ⟨some 22, none, .call false 38 [(.t 21)]⟩, ⟨some 23, none, .mv (.t 3)⟩, ⟨some 24, none, .call false 38 [(.t 23)]⟩, ⟨some 25, none, .bs false 1 [.int .i64 0] 1 [(0, (.k (.int .i64 2)))]⟩, ⟨some 26, none, .bs false 1 [.lit 1 []] 3 [(0, (.t 22)), (1, (.t 24)), (2, (.t 25))]⟩, ⟨some 27, none, .call false 37 [(.t 20), (.k (.int .i64 8)), (.t 26)]⟩, ⟨some 4, none, .mv (.t 27)⟩])
 (.seq (.seq (.reg [⟨some 28, none, .mv (.t 4)⟩, ⟨some 29, none, .bin .eql 2 (.t 28) (.k (.nilp))⟩])
 (.cond (.t 29)
  (.seq (.reg [⟨some 2, none, .mv (.k (.bool false))⟩])
  .ret)
  .skip))
 (.seq (.reg [⟨some 30, none, .mv (.t 4)⟩, ⟨some 31, none, .nc (.t 30)⟩, ⟨some 32, none, .fa 2 (.t 31)⟩, ⟨some 33, none, .ld none (.t 32)⟩, ⟨some 34, none, .ln false (.t 33)⟩, ⟨some 5, none, .mv (.t 34)⟩])
 (.seq (.reg [⟨some 6, none, .mv (.k (.nils))⟩])
 (.seq (.seq (.reg [⟨some 7, none, .mv (.k (.int .i64 0))⟩])
 (.block 0
  (.loop
   (.seq (.seq (.reg [⟨some 35, none, .mv (.t 7)⟩, ⟨some 36, none, .mv (.t 5)⟩, ⟨some 37, none, .bin .lss 0 (.t 35) (.t 36)⟩])
   (.cond (.t 37)
    .skip
    (.exit 0)))
   (.seq (.block 1
    (.seq (.reg [⟨some 8, none, .mv (.k (.nils))⟩])
    (.seq (.seq (.reg [⟨some 9, none, .mv (.k (.int .i64 0))⟩])
    (.block 2
     (.loop
      (.seq (.seq (.reg [⟨some 40, none, .mv (.t 9)⟩, ⟨some 41, none, .mv (.t 5)⟩, ⟨some 42, none, .bin .lss 0 (.t 40) (.t 41)⟩])
      (.cond (.t 42)
       .skip
       (.exit 2)))
      (.seq (.block 3
       (.reg [⟨some 45, none, .mv (.t 8)⟩, ⟨some 46, none, .mv (.t 7)⟩, ⟨some 47, none, .mv (.t 9)⟩, ⟨some 48, none, .bin .add 0 (.t 46) (.t 47)⟩, ⟨some 49, none, .bin .rem 0 (.t 48) (.k (.int .i64 8))⟩, ⟨some 50, none, .bs false 1 [.int .i64 0] 1 [(0, (.t 49))]⟩, ⟨some 51, none, .ap 1 8 (.t 45) (.t 50)⟩, ⟨some 8, none, .mv (.t 51)⟩]))
      (.reg [⟨some 43, none, .mv (.t 9)⟩, ⟨some 44, none, .bin .add 0 (.t 43) (.k (.int .i64 1))⟩, ⟨some 9, none, .mv (.t 44)⟩]))))))
    (.reg [⟨some 52, none, .mv (.t 6)⟩, ⟨some 53, none, .mv (.t 8)⟩, ⟨some 54, none, .bs false 1 [.lit 1 []] 1 [(0, (.t 53))]⟩, ⟨some 55, none, .ap 1 24 (.t 52) (.t 54)⟩, ⟨some 6, none, .mv (.t 55)⟩]))))
   (.reg [⟨some 38, none, .mv (.t 7)⟩, ⟨some 39, none, .bin .add 0 (.t 38) (.k (.int .i64 1))⟩, ⟨some 7, none, .mv (.t 39)⟩]))))))
 (.seq (.reg [⟨some 56, none, .mv (.t 4)⟩, ⟨some 57, none, .nc (.t 56)⟩, ⟨some 58, none, .fa 0 (.t 57)⟩, ⟨some 59, none, .ld none (.t 58)⟩, ⟨some 60, none, .call true 27 [(.t 59)]⟩, ⟨some 61, none, .call true 50 [(.t 60)]⟩, ⟨some 10, none, .mv (.t 61)⟩])
 (.seq (.reg [⟨some 63, none, .mv (.t 4)⟩, ⟨some 64, none, .nc (.t 63)⟩, ⟨some 65, none, .fa 0 (.t 64)⟩, ⟨some 66, none, .ld none (.t 65)⟩, ⟨some 67, none, .mv (.t 4)⟩, ⟨some 68, none, .nc (.t 67)⟩, ⟨some 69, none, .fa 2 (.t 68)⟩, ⟨some 70, none, .ld none (.t 69)⟩, ⟨some 71, none, .mv (.t 6)⟩, ⟨some 72, none, .call false 69 [(.t 66), (.t 70), (.t 71)]⟩, ⟨some 62, none, .mv (.t 72)⟩, ⟨some 73, none, .ex (.t 62) 0⟩, ⟨some 74, none, .ex (.t 62) 1⟩, ⟨some 11, none, .mv (.t 73)⟩, ⟨some 12, none, .mv (.t 74)⟩])
 (.seq (.seq (.reg [⟨some 75, none, .mv (.t 12)⟩, ⟨some 76, none, .bin .neq 0 (.t 75) (.k (.int .i64 0))⟩, ⟨some 77, none, .mv (.t 76)⟩, ⟨some 78, (some (77, false)), .mv (.t 11)⟩, ⟨some 79, (some (77, false)), .ln false (.t 78)⟩, ⟨some 80, (some (77, false)), .mv (.t 5)⟩, ⟨some 81, (some (77, false)), .bin .neq 0 (.t 79) (.t 80)⟩, ⟨some 82, none, .pk (.t 77) (.k (.bool true)) (.t 81)⟩])
 (.cond (.t 82)
  (.seq (.reg [⟨some 2, none, .mv (.k (.bool false))⟩])
  .ret)
  .skip))
 (.seq (.seq (.reg [⟨some 13, none, .mv (.k (.int .i64 0))⟩])
 (.block 4
  (.loop
   (.seq (.seq (.reg [⟨some 83, none, .mv (.t 13)⟩, ⟨some 84, none, .mv (.t 5)⟩, ⟨some 85, none, .bin .lss 0 (.t 83) (.t 84)⟩])
   (.cond (.t 85)
    .skip
    (.exit 4)))
   (.seq (.block 5
    (.seq (.reg [⟨some 14, none, .mv (.k (.nils))⟩])
    (.seq (.reg [⟨some 15, none, .mv (.k (.nils))⟩])
    (.seq (.seq (.reg [⟨some 16, none, .mv (.k (.int .i64 0))⟩])
    (.block 6
     (.loop
      (.seq (.seq (.reg [⟨some 88, none, .mv (.t 16)⟩, ⟨some 89, none, .mv (.t 5)⟩, ⟨some 90, none, .bin .lss 0 (.t 88) (.t 89)⟩])
      (.cond (.t 90)
       .skip
       (.exit 6)))
      (.seq (.block 7
       (.seq (.seq (.reg [⟨some 93, none, .mv (.t 11)⟩, ⟨some 94, none, .mv (.t 16)⟩, ⟨some 95, none, .ia 1 (.t 93) (.t 94)⟩, ⟨some 96, none, .ld none (.t 95)⟩, ⟨some 97, none, .ln false (.t 96)⟩, ⟨some 98, none, .mv (.t 5)⟩, ⟨some 99, none, .bin .neq 0 (.t 97) (.t 98)⟩])
       (.cond (.t 99)
        (.seq (.reg [⟨some 2, none, .mv (.k (.bool false))⟩])
        .ret)
        .skip))
       (.seq (.reg [⟨some 100, none, .mv (.t 14)⟩, ⟨some 101, none, .mv (.t 11)⟩, ⟨some 102, none, .mv (.t 16)⟩, ⟨some 103, none, .ia 1 (.t 101) (.t 102)⟩, ⟨some 104, none, .ld none (.t 103)⟩, ⟨some 105, none, .mv (.t 13)⟩, ⟨some 106, none, .ia 1 (.t 104) (.t 105)⟩, ⟨some 107, none, .ld none (.t 106)⟩, ⟨some 108, none, .bs false 1 [.int .i64 0] 1 [(0, (.t 107))]⟩, ⟨some 109, none, .ap 1 8 (.t 100) (.t 108)⟩, ⟨some 14, none, .mv (.t 109)⟩])
       (.drs [⟨some 110, none, .mv (.t 15)⟩, ⟨some 111, none, .mv (.t 4)⟩, ⟨some 112, none, .nc (.t 111)⟩, ⟨some 113, none, .fa 1 (.t 112)⟩, ⟨some 114, none, .ld none (.t 113)⟩, ⟨some 115, none, .mv (.t 4)⟩, ⟨some 116, none, .nc (.t 115)⟩, ⟨some 117, none, .fa 2 (.t 116)⟩, ⟨some 118, none, .ld none (.t 117)⟩, ⟨some 119, none, .mv (.t 13)⟩, ⟨some 120, none, .ia 1 (.t 118) (.t 119)⟩, ⟨some 121, none, .ld none (.t 120)⟩, ⟨some 122, none, .ia 1 (.t 114) (.t 121)⟩, ⟨some 123, none, .ld none (.t 122)⟩, ⟨some 124, none, .mv (.t 6)⟩, ⟨some 125, none, .mv (.t 13)⟩, ⟨some 126, none, .ia 1 (.t 124) (.t 125)⟩, ⟨some 127, none, .ld none (.t 126)⟩, ⟨some 128, none, .mv (.t 16)⟩, ⟨some 129, none, .ia 1 (.t 127) (.t 128)⟩, ⟨some 130, none, .ld none (.t 129)⟩, ⟨some 131, none, .ia 2 (.t 123) (.t 130)⟩, ⟨some 132, none, .ld (some 2) (.t 131)⟩, ⟨some 133, none, .bs false 2 [.lit 1 [], .lit 1 []] 1 [(0, (.t 132))]⟩, ⟨some 134, none, .ap 2 48 (.t 110) (.t 133)⟩, ⟨some 15, none, .mv (.t 134)⟩]))))
      (.reg [⟨some 91, none, .mv (.t 16)⟩, ⟨some 92, none, .bin .add 0 (.t 91) (.k (.int .i64 1))⟩, ⟨some 16, none, .mv (.t 92)⟩]))))))
    (.seq (.reg [⟨some 135, none, .mv (.t 4)⟩, ⟨some 136, none, .mv (.t 14)⟩, ⟨some 137, none, .mv (.t 12)⟩, ⟨some 138, none, .mv (.t 15)⟩, ⟨some 139, none, .mv (.t 10)⟩, ⟨some 140, none, .call true 51 [(.t 135), (.t 136), (.t 137), (.t 138), (.t 139)]⟩, ⟨some 141, none, .un .not (.t 140)⟩])
    (.cond (.t 141)
     (.seq (.reg [⟨some 2, none, .mv (.k (.bool false))⟩])
     .ret)
     .skip))))))
   (.reg [⟨some 86, none, .mv (.t 13)⟩, ⟨some 87, none, .bin .add 0 (.t 86) (.k (.int .i64 1))⟩, ⟨some 13, none, .mv (.t 87)⟩]))))))
 (.seq (.reg [⟨some 2, none, .mv (.k (.bool true))⟩])
 .ret))))))))))))
set_option maxRecDepth 100000 in
theorem er33 : (Try.f33.body.bind (erC Try.prog ({ cfg with opn := fun f => ([39, 41, 42, 43, 52, 69, 75, 89] : List Nat).contains f }) 142)) = some c33 := by kernel_rfl
theorem in33 {args : List AV} {σ : St} {Q : AV → St → Prop} (hlen : args.length ≤ 142) (h : σ.Wf → (∀ i, i < args.length → Hab (args.getD i .undef)) → SWP Try.prog σ.next c33 (retQ σ.next [.t 2] Q) (fun i => args.getD i .undef) σ) : TQ Try.prog 33 args σ Q := by
 obtain ⟨k, hb, hk⟩ := Option.bind_eq_some_iff.1 er33
 exact TQ_of (fn := Try.f33) Try.func33 (by kernel_rfl) hb (erC_is mixed hk) (by kernel_rfl) hlen h

/-! parquetry/parquetrylaw21.casts -/
/-! parquetry/parquetrylaw21.refuses -/
/-! parquetry/parquetrylaw21.begin -/
def c37 : C :=
 (.seq (.reg [⟨some 6, none, .mv (.k (.nilp))⟩])
 (.seq (.reg [⟨some 14, none, .mv (.t 0)⟩, ⟨some 15, none, .call false 53 [(.t 14), (.k (.int .i64 8))]⟩, ⟨some 16, none, .bin .add 0 (.k (.int .i64 1)) (.t 15)⟩, ⟨some 17, none, .bd [.nilp, .nils, .nils, .int .i64 0] [(3, 1, (.t 16))]⟩, ⟨some 18, none, .bx (.t 17)⟩, ⟨some 7, none, .mv (.t 18)⟩])
 (.seq (.reg [⟨some 19, none, .mv (.t 7)⟩, ⟨some 20, none, .mv (.t 7)⟩, ⟨some 21, none, .nc (.t 20)⟩, ⟨some 22, none, .fa 3 (.t 21)⟩, ⟨some 23, none, .ld none (.t 22)⟩, ⟨some 24, none, .call false 22 [(.t 23)]⟩, ⟨some 25, none, .nc (.t 19)⟩, ⟨some 26, none, .fa 0 (.t 25)⟩, ⟨none, none, .st 1 (.t 26) (.t 24)⟩])
 (.seq (.seq (.reg [⟨some 27, none, .mv (.t 7)⟩, ⟨some 28, none, .nc (.t 27)⟩, ⟨some 29, none, .fa 0 (.t 28)⟩, ⟨some 30, none, .ld none (.t 29)⟩, ⟨some 31, none, .bin .eql 2 (.t 30) (.k (.nilp))⟩])
 (.cond (.t 31)
  (.seq (.reg [⟨some 6, none, .mv (.k (.nilp))⟩])
  .ret)
  .skip))
 (.seq (.seq (.reg [⟨some 8, none, .mv (.k (.int .i64 0))⟩])
 (.block 0
  (.loop
   (.seq (.seq (.reg [⟨some 32, none, .mv (.t 8)⟩, ⟨some 33, none, .mv (.t 7)⟩, ⟨some 34, none, .nc (.t 33)⟩, ⟨some 35, none, .fa 3 (.t 34)⟩, ⟨some 36, none, .ld none (.t 35)⟩, ⟨some 37, none, .bin .lss 0 (.t 32) (.t 36)⟩])
   (.cond (.t 37)
    .skip
    (.exit 0)))
   (.seq (.block 1
    (.seq (.reg [⟨some 9, none, .mv (.k (.nils))⟩])
    (.seq (.seq (.reg [⟨some 10, none, .mv (.k (.int .i64 0))⟩])
    (.block 2
     (.loop
      (.seq (.seq (.reg [⟨some 40, none, .mv (.t 10)⟩, ⟨some 41, none, .mv (.t 1)⟩, ⟨some 42, none, .bin .lss 0 (.t 40) (.t 41)⟩])
      (.cond (.t 42)
       .skip
       (.exit 2)))
      (.seq (.block 3
       (.seq (.reg [⟨some 45, none, .mv (.t 7)⟩, ⟨some 46, none, .nc (.t 45)⟩, ⟨some 47, none, .fa 0 (.t 46)⟩, ⟨some 48, none, .ld none (.t 47)⟩, ⟨some 49, none, .mv (.t 8)⟩, ⟨some 50, none, .call false 23 [(.t 48), (.t 49)]⟩, ⟨some 11, none, .mv (.t 50)⟩])
       (.seq (.reg [⟨some 51, none, .mv (.t 9)⟩, ⟨some 52, none, .mv (.t 0)⟩, ⟨some 53, none, .mv (.t 2)⟩, ⟨some 54, none, .mv (.t 8)⟩, ⟨some 55, none, .mv (.t 10)⟩, ⟨some 56, none, .bin .add 0 (.t 54) (.t 55)⟩, ⟨some 57, none, .mv (.t 2)⟩, ⟨some 58, none, .ln false (.t 57)⟩, ⟨some 59, none, .bin .rem 0 (.t 56) (.t 58)⟩, ⟨some 60, none, .ia 1 (.t 53) (.t 59)⟩, ⟨some 61, none, .ld none (.t 60)⟩, ⟨some 62, none, .call false 70 [(.t 52), (.t 61)]⟩, ⟨some 63, none, .bs false 2 [.lit 1 [], .lit 1 []] 1 [(0, (.t 62))]⟩, ⟨some 64, none, .ap 2 48 (.t 51) (.t 63)⟩, ⟨some 9, none, .mv (.t 64)⟩])
       (.seq (.reg [⟨some 65, none, .mv (.t 11)⟩, ⟨some 66, none, .mv (.t 10)⟩, ⟨some 67, none, .bin .neq 0 (.t 65) (.t 66)⟩, ⟨some 68, none, .mv (.t 67)⟩, ⟨some 69, (some (68, false)), .mv (.t 7)⟩, ⟨some 70, (some (68, false)), .nc (.t 69)⟩, ⟨some 71, (some (68, false)), .fa 0 (.t 70)⟩, ⟨some 72, (some (68, false)), .ld none (.t 71)⟩, ⟨some 73, (some (68, false)), .mv (.t 8)⟩, ⟨some 74, (some (68, false)), .mv (.t 11)⟩, ⟨some 75, (some (68, false)), .mv (.t 10)⟩, ⟨some 76, (some (68, false)), .bd [.int .i64 0, .int .i64 0, .lit 1 [], .int .i64 0, .lit 1 [], .lit 1 [], .lit 1 [], .int .i64 0, .int .i64 0, .str ⟨#[]⟩, .int .i64 0, .int .i64 0, .int .i64 0] [(0, 1, (.k (.int .i64 1))), (1, 1, (.t 74)), (10, 1, (.t 75))]⟩, ⟨some 77, (some (68, false)), .call false 24 [(.t 72), (.t 73), (.t 76)]⟩, ⟨some 78, (some (68, false)), .bin .neq 0 (.t 77) (.k (.int .i64 0))⟩, ⟨some 79, none, .pk (.t 68) (.k (.bool true)) (.t 78)⟩])
       (.cond (.t 79)
        (.seq (.reg [⟨some 6, none, .mv (.k (.nilp))⟩])
        .ret)
        .skip)))))
      (.reg [⟨some 43, none, .mv (.t 10)⟩, ⟨some 44, none, .bin .add 0 (.t 43) (.k (.int .i64 1))⟩, ⟨some 10, none, .mv (.t 44)⟩]))))))
    (.reg [⟨some 80, none, .mv (.t 7)⟩, ⟨some 81, none, .mv (.t 7)⟩, ⟨some 82, none, .nc (.t 81)⟩, ⟨some 83, none, .fa 1 (.t 82)⟩, ⟨some 84, none, .ld none (.t 83)⟩, ⟨some 85, none, .mv (.t 9)⟩, ⟨some 86, none, .bs false 1 [.lit 1 []] 1 [(0, (.t 85))]⟩, ⟨some 87, none, .ap 1 24 (.t 84) (.t 86)⟩, ⟨some 88, none, .nc (.t 80)⟩, ⟨some 89, none, .fa 1 (.t 88)⟩, ⟨none, none, .st 1 (.t 89) (.t 87)⟩]))))
   (.reg [⟨some 38, none, .mv (.t 8)⟩, ⟨some 39, none, .bin .add 0 (.t 38) (.k (.int .i64 1))⟩, ⟨some 8, none, .mv (.t 39)⟩]))))))
 (.seq (.seq (.reg [⟨some 12, none, .mv (.k (.int .i64 0))⟩])
 (.block 4
  (.loop
   (.seq (.seq (.reg [⟨some 90, none, .mv (.t 12)⟩, ⟨some 91, none, .mv (.t 7)⟩, ⟨some 92, none, .nc (.t 91)⟩, ⟨some 93, none, .fa 3 (.t 92)⟩, ⟨some 94, none, .ld none (.t 93)⟩, ⟨some 95, none, .bin .lss 0 (.t 90) (.t 94)⟩])
   (.cond (.t 95)
    .skip
    (.exit 4)))
   (.seq (.block 5
    (.seq (.reg [⟨some 98, none, .mv (.t 0)⟩, ⟨some 99, none, .call false 53 [(.t 98), (.k (.int .i64 4))]⟩, ⟨some 100, none, .bin .gtr 0 (.t 99) (.k (.int .i64 0))⟩, ⟨some 101, none, .mv (.t 100)⟩, ⟨some 102, (some (101, false)), .mv (.t 12)⟩, ⟨some 103, (some (101, false)), .mv (.t 7)⟩, ⟨some 104, (some (101, false)), .nc (.t 103)⟩, ⟨some 105, (some (101, false)), .fa 3 (.t 104)⟩, ⟨some 106, (some (101, false)), .ld none (.t 105)⟩, ⟨some 107, (some (101, false)), .bin .sub 0 (.t 106) (.k (.int .i64 1))⟩, ⟨some 108, (some (101, false)), .bin .eql 0 (.t 102) (.t 107)⟩, ⟨some 109, (some (101, false)), .mv (.t 108)⟩, ⟨some 110, (some (109, true)), .mv (.t 7)⟩, ⟨some 111, (some (109, true)), .nc (.t 110)⟩, ⟨some 112, (some (109, true)), .fa 2 (.t 111)⟩, ⟨some 113, (some (109, true)), .ld none (.t 112)⟩, ⟨some 114, (some (109, true)), .ln false (.t 113)⟩, ⟨some 115, (some (109, true)), .bin .eql 0 (.t 114) (.k (.int .i64 0))⟩, ⟨some 116, (some (101, false)), .pk (.t 109) (.t 115) (.k (.bool false))⟩, ⟨some 117, none, .pk (.t 101) (.k (.bool true)) (.t 116)⟩])
    (.cond (.t 117)
     (.seq (.reg [⟨some 118, none, .mv (.t 0)⟩, ⟨some 119, none, .mv (.t 7)⟩, ⟨some 120, none, .nc (.t 119)⟩, ⟨some 121, none, .fa 2 (.t 120)⟩, ⟨some 122, none, .ld none (.t 121)⟩, ⟨some 123, none, .ln false (.t 122)⟩, ⟨some 124, none, .bin .add 0 (.t 123) (.k (.int .i64 1))⟩, ⟨some 125, none, .call false 53 [(.t 118), (.t 124)]⟩, ⟨some 13, none, .mv (.t 125)⟩])
     (.dr [[], [], [], [2], [3, 2], [4, 3, 2], [], [5, 6, 4, 3, 2], [1, 7, 5, 6, 4, 3, 2], [], [9], [8, 10, 1, 7, 5, 6, 4, 3, 2, 9], [], [12], [13, 12], [14, 13, 12], [], [15, 16, 14, 13, 12], [11, 17, 8, 10, 1, 7, 5, 6, 4, 3, 2, 9, 15, 16, 14, 13, 12], [0, 1, 2, 3, 4, 5, 6, 7, 8, 9, 10, 11, 12, 13, 14, 15, 16, 17, 18], [19, 0, 1, 2, 3, 4, 5, 6, 7, 8, 9, 10, 11, 12, 13, 14, 15, 16, 17, 18], [20, 18, 0, 1, 2, 3, 4, 5, 6, 7, 8, 9, 10, 11, 12, 13, 14, 15, 16, 17, 19]] [⟨some 126, none, .mv (.t 7)⟩, ⟨some 127, none, .bs false 1 [.int .i64 0] 0 []⟩, ⟨some 128, none, .mv (.t 7)⟩, ⟨some 129, none, .nc (.t 128)⟩, ⟨some 130, none, .fa 2 (.t 129)⟩, ⟨some 131, none, .ld none (.t 130)⟩, ⟨some 132, none, .mv (.t 13)⟩, ⟨some 133, none, .sc 1 (.t 131) none (some (.t 132)) none⟩, ⟨some 134, none, .ap 1 8 (.t 127) (.t 133)⟩, ⟨some 135, none, .mv (.t 12)⟩, ⟨some 136, none, .bs false 1 [.int .i64 0] 1 [(0, (.t 135))]⟩, ⟨some 137, none, .ap 1 8 (.t 134) (.t 136)⟩, ⟨some 138, none, .mv (.t 7)⟩, ⟨some 139, none, .nc (.t 138)⟩, ⟨some 140, none, .fa 2 (.t 139)⟩, ⟨some 141, none, .ld none (.t 140)⟩, ⟨some 142, none, .mv (.t 13)⟩, ⟨some 143, none, .sc 1 (.t 141) (some (.t 142)) none none⟩, ⟨some 144, none, .ap 1 8 (.t 137) (.t 143)⟩, ⟨some 145, none, .nc (.t 126)⟩, ⟨some 146, none, .fa 2 (.t 145)⟩, ⟨none, none, .st 1 (.t 146) (.t 144)⟩]))
     .skip)))
   (.reg [⟨some 96, none, .mv (.t 12)⟩, ⟨some 97, none, .bin .add 0 (.t 96) (.k (.int .i64 1))⟩, ⟨some 12, none, .mv (.t 97)⟩]))))))
 (.seq (.reg [⟨some 147, none, .mv (.t 7)⟩, ⟨some 6, none, .mv (.t 147)⟩])
 .ret)))))))
set_option maxRecDepth 100000 in
theorem er37 : (Try.f37.body.bind (erC Try.prog cfg 148)) = some c37 := by kernel_rfl
theorem in37 {args : List AV} {σ : St} {Q : AV → St → Prop} (hlen : args.length ≤ 148) (h : σ.Wf → (∀ i, i < args.length → Hab (args.getD i .undef)) → SWP Try.prog σ.next c37 (retQ σ.next [.t 6] Q) (fun i => args.getD i .undef) σ) : TQ Try.prog 37 args σ Q := by
 obtain ⟨k, hb, hk⟩ := Option.bind_eq_some_iff.1 er37
 exact TQ_of (fn := Try.f37) Try.func37 (by kernel_rfl) hb (erC_is mixed hk) (by kernel_rfl) hlen h

/-! (*parquetry/parquetrykeep.Tape).Shape -/
def c38 : C :=
 (.seq (.reg [⟨some 2, none, .mv (.k (.nils))⟩])
 (.seq (.reg [⟨some 3, none, .mv (.k (.nils))⟩])
 (.seq (.seq (.reg [⟨some 5, none, .mv (.t 0)⟩, ⟨some 6, none, .call false 53 [(.t 5), (.k (.int .i64 4))]⟩, ⟨some 4, none, .mv (.t 6)⟩])
 (.block 0
  (.loop
   (.seq (.seq (.reg [⟨some 7, none, .mv (.t 4)⟩, ⟨some 8, none, .bin .gtr 0 (.t 7) (.k (.int .i64 0))⟩])
   (.cond (.t 8)
    .skip
    (.exit 0)))
   (.seq (.block 1
    (.reg [⟨some 11, none, .mv (.t 3)⟩, ⟨some 12, none, .bs false 1 [.int .i64 0] 8 [(0, (.k (.int .i64 1))), (1, (.k (.int .i64 2))), (2, (.k (.int .i64 3))), (3, (.k (.int .i64 4))), (4, (.k (.int .i64 5))), (5, (.k (.int .i64 0))), (6, (.k (.int .i64 7))), (7, (.k (.int .i64 2)))]⟩, ⟨some 13, none, .mv (.t 0)⟩, ⟨some 14, none, .call false 53 [(.t 13), (.k (.int .i64 8))]⟩, ⟨some 15, none, .ia 1 (.t 12) (.t 14)⟩, ⟨some 16, none, .ld none (.t 15)⟩, ⟨some 17, none, .bs false 1 [.int .i64 0] 1 [(0, (.t 16))]⟩, ⟨some 18, none, .ap 1 8 (.t 11) (.t 17)⟩, ⟨some 3, none, .mv (.t 18)⟩]))
   (.reg [⟨some 9, none, .mv (.t 4)⟩, ⟨some 10, none, .bin .sub 0 (.t 9) (.k (.int .i64 1))⟩, ⟨some 4, none, .mv (.t 10)⟩]))))))
 (.seq (.reg [⟨some 19, none, .mv (.t 3)⟩, ⟨some 2, none, .mv (.t 19)⟩])
 .ret))))
set_option maxRecDepth 100000 in
theorem er38 : (Try.f38.body.bind (erC Try.prog cfg 20)) = some c38 := by kernel_rfl
theorem in38 {args : List AV} {σ : St} {Q : AV → St → Prop} (hlen : args.length ≤ 20) (h : σ.Wf → (∀ i, i < args.length → Hab (args.getD i .undef)) → SWP Try.prog σ.next c38 (retQ σ.next [.t 2] Q) (fun i => args.getD i .undef) σ) : TQ Try.prog 38 args σ Q := by
 obtain ⟨k, hb, hk⟩ := Option.bind_eq_some_iff.1 er38
 exact TQ_of (fn := Try.f38) Try.func38 (by kernel_rfl) hb (erC_is mixed hk) (by kernel_rfl) hlen h

/-! parquetry/ring.Shift -/
/-! parquetry/parquetrylaw21.zeros -/
/-! parquetry/ring.Reduce -/
def c41 : C :=
 (.seq (.reg [⟨some 8, none, .mv (.k (.nils))⟩, ⟨some 9, none, .mv (.k (.int .i64 0))⟩])
 (.seq (.seq (.reg [⟨some 18, none, .mv (.t 0)⟩, ⟨some 19, none, .mv (.t 1)⟩, ⟨some 20, none, .mv (.t 2)⟩, ⟨some 21, none, .call true 71 [(.t 18), (.t 19), (.t 20)]⟩, ⟨some 10, none, .mv (.t 21)⟩])
 (.seq (.reg [⟨some 22, none, .mv (.t 10)⟩, ⟨some 23, none, .bin .neq 0 (.t 22) (.k (.int .i64 0))⟩, ⟨some 24, none, .mv (.t 23)⟩, ⟨some 25, (some (24, false)), .mv (.t 3)⟩, ⟨some 26, (some (24, false)), .call true 76 [(.t 25)]⟩, ⟨some 27, (some (24, false)), .un .not (.t 26)⟩, ⟨some 28, none, .pk (.t 24) (.k (.bool true)) (.t 27)⟩])
 (.cond (.t 28)
  (.seq (.reg [⟨some 8, none, .mv (.k (.nils))⟩, ⟨some 9, none, .mv (.k (.int .i64 1))⟩])
  .ret)
  .skip)))
 (.seq (.seq (.reg [⟨some 29, none, .mv (.t 0)⟩, ⟨some 30, none, .mv (.t 1)⟩, ⟨some 31, none, .mv (.t 1)⟩, ⟨some 32, none, .ln false (.t 31)⟩, ⟨some 33, none, .bin .sub 0 (.t 32) (.k (.int .i64 1))⟩, ⟨some 34, none, .bin .mul 0 (.k (.int .i64 3)) (.t 33)⟩, ⟨some 35, none, .call false 74 [(.t 34)]⟩, ⟨some 36, none, .call true 73 [(.t 29), (.t 30), (.t 35)]⟩, ⟨some 11, none, .mv (.t 36)⟩])
 (.seq (.reg [⟨some 37, none, .mv (.t 11)⟩, ⟨some 38, none, .bin .neq 0 (.t 37) (.k (.int .i64 0))⟩])
 (.cond (.t 38)
  (.seq (.reg [⟨some 39, none, .mv (.t 11)⟩, ⟨some 8, none, .mv (.k (.nils))⟩, ⟨some 9, none, .mv (.t 39)⟩])
  .ret)
  .skip)))
 (.seq (.reg [⟨some 12, none, .mv (.k (.nils))⟩])
 (.seq (.seq (.reg [⟨some 40, none, .mv (.t 0)⟩, ⟨some 41, none, .mv (.t 1)⟩, ⟨some 42, none, .mv (.t 2)⟩, ⟨some 43, none, .call false 77 [(.t 40), (.t 41), (.t 42)]⟩, ⟨some 44, none, .ln false (.t 43)⟩, ⟨some 45, none, .mv (.k (.int .i64 0))⟩])
 (.block 0
  (.loop
   (.seq (.reg [⟨some 46, none, .bin .lss 0 (.t 45) (.t 44)⟩])
   (.seq (.cond (.t 46)
    .skip
    (.exit 0))
   (.seq (.block 1
    (.seq (.reg [⟨some 47, none, .mv (.t 45)⟩, ⟨some 48, none, .ia 1 (.t 43) (.t 45)⟩, ⟨some 49, none, .ld none (.t 48)⟩, ⟨some 13, none, .mv (.t 47)⟩, ⟨some 14, none, .mv (.t 49)⟩])
    (.seq (.reg [⟨some 50, none, .mv (.t 14)⟩, ⟨some 51, none, .ia 1 (.t 50) (.k (.int .i64 0))⟩, ⟨some 52, none, .ld none (.t 51)⟩, ⟨some 15, none, .mv (.t 52)⟩])
    (.seq (.seq (.reg [⟨some 53, none, .mv (.t 14)⟩, ⟨some 54, none, .sc 1 (.t 53) (some (.k (.int .i64 1))) none none⟩, ⟨some 55, none, .ln false (.t 54)⟩, ⟨some 56, none, .mv (.k (.int .i64 0))⟩])
    (.block 2
     (.loop
      (.seq (.reg [⟨some 57, none, .bin .lss 0 (.t 56) (.t 55)⟩])
      (.seq (.cond (.t 57)
       .skip
       (.exit 2))
      (.seq (.block 3
       (.seq (.reg [⟨some 58, none, .ia 1 (.t 54) (.t 56)⟩, ⟨some 59, none, .ld none (.t 58)⟩, ⟨some 17, none, .mv (.t 59)⟩])
       (.drs [⟨some 60, none, .mv (.t 0)⟩, ⟨some 61, none, .mv (.t 1)⟩, ⟨some 62, none, .mv (.t 13)⟩, ⟨some 63, none, .ia 1 (.t 61) (.t 62)⟩, ⟨some 64, none, .ld none (.t 63)⟩, ⟨some 65, none, .mv (.t 3)⟩, ⟨some 66, none, .call true 79 [(.t 65)]⟩, ⟨some 67, none, .bd [.int .i64 0, .lit 1 [], .lit 1 [], .lit 1 [], .int .i64 0, .int .i64 0, .str ⟨#[]⟩] [(0, 1, (.t 66))]⟩, ⟨some 68, none, .mv (.t 15)⟩, ⟨some 69, none, .mv (.t 17)⟩, ⟨some 70, none, .bs false 1 [.int .i64 0] 2 [(0, (.t 68)), (1, (.t 69))]⟩, ⟨some 71, none, .call false 78 [(.t 60), (.t 64), (.t 67), (.t 70)]⟩, ⟨some 15, none, .mv (.t 71)⟩])))
      (.reg [⟨some 72, none, .bin .add 0 (.t 56) (.k (.int .i64 1))⟩, ⟨some 56, none, .mv (.t 72)⟩])))))))
    (.reg [⟨some 73, none, .mv (.t 12)⟩, ⟨some 74, none, .mv (.t 15)⟩, ⟨some 75, none, .bs false 1 [.int .i64 0] 1 [(0, (.t 74))]⟩, ⟨some 76, none, .ap 1 8 (.t 73) (.t 75)⟩, ⟨some 12, none, .mv (.t 76)⟩])))))
   (.reg [⟨some 77, none, .bin .add 0 (.t 45) (.k (.int .i64 1))⟩, ⟨some 45, none, .mv (.t 77)⟩])))))))
 (.seq (.reg [⟨some 78, none, .mv (.t 12)⟩, ⟨some 8, none, .mv (.t 78)⟩, ⟨some 9, none, .mv (.k (.int .i64 0))⟩])
 .ret))))))
set_option maxRecDepth 100000 in
theorem er41 : (Try.f41.body.bind (erC Try.prog cfg 79)) = some c41 := by kernel_rfl
theorem in41 {args : List AV} {σ : St} {Q : AV → St → Prop} (hlen : args.length ≤ 79) (h : σ.Wf → (∀ i, i < args.length → Hab (args.getD i .undef)) → SWP Try.prog σ.next c41 (retQ σ.next [.t 8, .t 9] Q) (fun i => args.getD i .undef) σ) : TQ Try.prog 41 args σ Q := by
 obtain ⟨k, hb, hk⟩ := Option.bind_eq_some_iff.1 er41
 exact TQ_of (fn := Try.f41) Try.func41 (by kernel_rfl) hb (erC_is mixed hk) (by kernel_rfl) hlen h

/-! parquetry/ring.Cast -/
/-! parquetry/parquetrylaw21.run -/
def c43 : C :=
 (.seq (.reg [⟨some 4, none, .mv (.k (.nilp))⟩, ⟨some 5, none, .mv (.k (.bool false))⟩])
 (.seq (.seq (.reg [⟨some 22, none, .mv (.t 0)⟩, ⟨some 23, none, .call true 58 [(.t 22)]⟩, ⟨some 24, none, .bin .neq 0 (.t 23) (.k (.int .i64 0))⟩])
 (.cond (.t 24)
  (.seq (.reg [⟨some 4, none, .mv (.k (.nilp))⟩, ⟨some 5, none, .mv (.k (.bool false))⟩])
  .ret)
  .skip))
 (.seq (.reg [⟨some 26, none, .mv (.t 0)⟩, ⟨some 27, none, .mv (.t 1)⟩, ⟨some 28, none, .call false 82 [(.t 26), (.t 27)]⟩, ⟨some 25, none, .mv (.t 28)⟩, ⟨some 29, none, .ex (.t 25) 0⟩, ⟨some 30, none, .ex (.t 25) 1⟩, ⟨some 6, none, .mv (.t 29)⟩, ⟨some 7, none, .mv (.t 30)⟩])
 (.seq (.reg [⟨some 32, none, .mv (.t 0)⟩, ⟨some 33, none, .mv (.t 1)⟩, ⟨some 34, none, .call false 82 [(.t 32), (.t 33)]⟩, ⟨some 31, none, .mv (.t 34)⟩, ⟨some 35, none, .ex (.t 31) 0⟩, ⟨some 36, none, .ex (.t 31) 1⟩, ⟨some 8, none, .mv (.t 35)⟩, ⟨some 9, none, .mv (.t 36)⟩])
 (.seq (.seq (.reg [⟨some 37, none, .mv (.t 7)⟩, ⟨some 38, none, .bin .neq 0 (.t 37) (.k (.int .i64 0))⟩, ⟨some 39, none, .mv (.t 38)⟩, ⟨some 40, (some (39, false)), .mv (.t 9)⟩, ⟨some 41, (some (39, false)), .bin .neq 0 (.t 40) (.k (.int .i64 0))⟩, ⟨some 42, none, .pk (.t 39) (.k (.bool true)) (.t 41)⟩])
 (.cond (.t 42)
  (.seq (.reg [⟨some 4, none, .mv (.k (.nilp))⟩, ⟨some 5, none, .mv (.k (.bool false))⟩])
  .ret)
  .skip))
 (.seq (.seq (.reg [⟨some 43, none, .mv (.t 0)⟩, ⟨some 44, none, .ln false (.t 43)⟩, ⟨some 45, none, .bin .sub 0 (.t 44) (.k (.int .i64 1))⟩, ⟨some 10, none, .mv (.t 45)⟩])
 (.block 0
  (.loop
   (.seq (.seq (.reg [⟨some 46, none, .mv (.t 10)⟩, ⟨some 47, none, .bin .geq 0 (.t 46) (.k (.int .i64 0))⟩])
   (.cond (.t 47)
    .skip
    (.exit 0)))
   (.seq (.block 1
    (.block 2
     (.loop
      (.block 3
       (.seq (.reg [⟨some 51, none, .mv (.t 8)⟩, ⟨some 52, none, .mv (.t 10)⟩, ⟨some 53, none, .call false 83 [(.t 51), (.t 52)]⟩, ⟨some 50, none, .mv (.t 53)⟩, ⟨some 54, none, .ex (.t 50) 0⟩, ⟨some 55, none, .ex (.t 50) 1⟩, ⟨some 11, none, .mv (.t 54)⟩, ⟨some 12, none, .mv (.t 55)⟩])
       (.seq (.seq (.reg [⟨some 56, none, .mv (.t 12)⟩, ⟨some 57, none, .bin .neq 0 (.t 56) (.k (.int .i64 0))⟩])
       (.cond (.t 57)
        (.seq (.reg [⟨some 4, none, .mv (.k (.nilp))⟩, ⟨some 5, none, .mv (.k (.bool false))⟩])
        .ret)
        .skip))
       (.seq (.reg [⟨some 58, none, .mv (.t 11)⟩, ⟨some 59, none, .un .not (.t 58)⟩])
       (.cond (.t 59)
        (.exit 2)
        .skip))))))))
   (.reg [⟨some 48, none, .mv (.t 10)⟩, ⟨some 49, none, .bin .sub 0 (.t 48) (.k (.int .i64 1))⟩, ⟨some 10, none, .mv (.t 49)⟩]))))))
 (.seq (.reg [⟨some 61, none, .mv (.t 6)⟩, ⟨some 62, none, .call false 84 [(.t 61)]⟩, ⟨some 60, none, .mv (.t 62)⟩, ⟨some 63, none, .ex (.t 60) 0⟩, ⟨some 64, none, .ex (.t 60) 1⟩, ⟨some 13, none, .mv (.t 63)⟩, ⟨some 14, none, .mv (.t 64)⟩])
 (.seq (.reg [⟨some 66, none, .mv (.t 8)⟩, ⟨some 67, none, .call false 84 [(.t 66)]⟩, ⟨some 65, none, .mv (.t 67)⟩, ⟨some 68, none, .ex (.t 65) 0⟩, ⟨some 69, none, .ex (.t 65) 1⟩, ⟨some 15, none, .mv (.t 68)⟩, ⟨some 16, none, .mv (.t 69)⟩])
 (.seq (.seq (.drs [⟨some 70, none, .mv (.t 13)⟩, ⟨some 71, none, .un .not (.t 70)⟩, ⟨some 72, none, .mv (.t 71)⟩, ⟨some 73, (some (72, false)), .mv (.t 15)⟩, ⟨some 74, (some (72, false)), .un .not (.t 73)⟩, ⟨some 75, none, .pk (.t 72) (.k (.bool true)) (.t 74)⟩, ⟨some 76, none, .mv (.t 75)⟩, ⟨some 77, (some (76, false)), .mv (.t 14)⟩, ⟨some 78, (some (76, false)), .bin .neq 0 (.t 77) (.k (.int .i64 0))⟩, ⟨some 79, none, .pk (.t 76) (.k (.bool true)) (.t 78)⟩, ⟨some 80, none, .mv (.t 79)⟩, ⟨some 81, (some (80, false)), .mv (.t 16)⟩, ⟨some 82, (some (80, false)), .bin .neq 0 (.t 81) (.k (.int .i64 0))⟩, ⟨some 83, none, .pk (.t 80) (.k (.bool true)) (.t 82)⟩, ⟨some 84, none, .mv (.t 83)⟩, ⟨some 85, (some (84, false)), .mv (.t 6)⟩, ⟨some 86, (some (84, false)), .nc (.t 85)⟩, ⟨some 87, (some (84, false)), .fa 4 (.t 86)⟩, ⟨some 88, (some (84, false)), .ld none (.t 87)⟩, ⟨some 89, (some (84, false)), .ln false (.t 88)⟩, ⟨some 90, (some (84, false)), .bin .neq 0 (.t 89) (.k (.int .i64 0))⟩, ⟨some 91, none, .pk (.t 84) (.k (.bool true)) (.t 90)⟩, ⟨some 92, none, .mv (.t 91)⟩, ⟨some 93, (some (92, false)), .mv (.t 8)⟩, ⟨some 94, (some (92, false)), .nc (.t 93)⟩, ⟨some 95, (some (92, false)), .fa 4 (.t 94)⟩, ⟨some 96, (some (92, false)), .ld none (.t 95)⟩, ⟨some 97, (some (92, false)), .ln false (.t 96)⟩, ⟨some 98, (some (92, false)), .bin .neq 0 (.t 97) (.k (.int .i64 0))⟩, ⟨some 99, none, .pk (.t 92) (.k (.bool true)) (.t 98)⟩, ⟨some 100, none, .mv (.t 99)⟩, ⟨some 101, (some (100, false)), .mv (.t 6)⟩, ⟨some 102, (some (100, false)), .nc (.t 101)⟩, ⟨some 103, (some (100, false)), .fa 5 (.t 102)⟩, ⟨some 104, (some (100, false)), .ld none (.t 103)⟩, ⟨some 105, (some (100, false)), .mv (.t 8)⟩, ⟨some 106, (some (100, false)), .nc (.t 105)⟩, ⟨some 107, (some (100, false)), .fa 5 (.t 106)⟩, ⟨some 108, (some (100, false)), .ld none (.t 107)⟩, ⟨some 109, (some (100, false)), .bin .neq 0 (.t 104) (.t 108)⟩, ⟨some 110, none, .pk (.t 100) (.k (.bool true)) (.t 109)⟩])
 (.cond (.t 110)
  (.seq (.reg [⟨some 4, none, .mv (.k (.nilp))⟩, ⟨some 5, none, .mv (.k (.bool false))⟩])
  .ret)
  .skip))
 (.seq (.seq (.reg [⟨some 111, none, .mv (.t 0)⟩, ⟨some 112, none, .ln false (.t 111)⟩, ⟨some 113, none, .mv (.k (.int .i64 0))⟩])
 (.block 4
  (.loop
   (.seq (.reg [⟨some 114, none, .bin .lss 0 (.t 113) (.t 112)⟩])
   (.seq (.cond (.t 114)
    .skip
    (.exit 4))
   (.seq (.block 5
    (.seq (.reg [⟨some 115, none, .mv (.t 113)⟩, ⟨some 17, none, .mv (.t 115)⟩])
    (.seq (.seq (.drs [⟨some 116, none, .mv (.t 6)⟩, ⟨some 117, none, .nc (.t 116)⟩, ⟨some 118, none, .fa 2 (.t 117)⟩, ⟨some 119, none, .ld none (.t 118)⟩, ⟨some 120, none, .mv (.t 17)⟩, ⟨some 121, none, .ia 1 (.t 119) (.t 120)⟩, ⟨some 122, none, .ld none (.t 121)⟩, ⟨some 123, none, .lm (.t 122)⟩, ⟨some 124, none, .mv (.t 8)⟩, ⟨some 125, none, .nc (.t 124)⟩, ⟨some 126, none, .fa 2 (.t 125)⟩, ⟨some 127, none, .ld none (.t 126)⟩, ⟨some 128, none, .mv (.t 17)⟩, ⟨some 129, none, .ia 1 (.t 127) (.t 128)⟩, ⟨some 130, none, .ld none (.t 129)⟩, ⟨some 131, none, .lm (.t 130)⟩, ⟨some 132, none, .bin .neq 0 (.t 123) (.t 131)⟩])
    (.cond (.t 132)
     (.seq (.reg [⟨some 4, none, .mv (.k (.nilp))⟩, ⟨some 5, none, .mv (.k (.bool false))⟩])
     .ret)
     .skip))
    (.seq (.reg [⟨some 133, none, .mv (.t 6)⟩, ⟨some 134, none, .nc (.t 133)⟩, ⟨some 135, none, .fa 2 (.t 134)⟩, ⟨some 136, none, .ld none (.t 135)⟩, ⟨some 137, none, .mv (.t 17)⟩, ⟨some 138, none, .ia 1 (.t 136) (.t 137)⟩, ⟨some 139, none, .ld none (.t 138)⟩, ⟨some 140, none, .rg (.t 139)⟩])
    (.block 6
     (.loop
      (.seq (.reg [⟨some 141, none, .nx (.t 140)⟩, ⟨some 142, none, .ex (.t 141) 0⟩])
      (.seq (.cond (.t 142)
       .skip
       (.exit 6))
      (.block 7
       (.seq (.reg [⟨some 143, none, .en (.t 140)⟩, ⟨some 144, none, .ex (.t 143) 0⟩, ⟨some 145, none, .ex (.t 143) 1⟩, ⟨some 19, none, .al [.lit 1 [], .lit 1 []]⟩, ⟨some 18, none, .mv (.t 144)⟩, ⟨none, none, .st 2 (.t 19) (.t 145)⟩])
       (.seq (.reg [⟨some 147, none, .mv (.t 8)⟩, ⟨some 148, none, .nc (.t 147)⟩, ⟨some 149, none, .fa 2 (.t 148)⟩, ⟨some 150, none, .ld none (.t 149)⟩, ⟨some 151, none, .mv (.t 17)⟩, ⟨some 152, none, .ia 1 (.t 150) (.t 151)⟩, ⟨some 153, none, .ld none (.t 152)⟩, ⟨some 154, none, .mv (.t 18)⟩, ⟨some 155, none, .lk true none (.agg [.lit 1 [], .lit 1 []]) (.t 153) (.t 154)⟩, ⟨some 146, none, .mv (.t 155)⟩, ⟨some 156, none, .ex (.t 146) 0⟩, ⟨some 157, none, .ex (.t 146) 1⟩, ⟨some 20, none, .al [.lit 1 [], .lit 1 []]⟩, ⟨none, none, .st 2 (.t 20) (.t 156)⟩, ⟨some 21, none, .mv (.t 157)⟩])
       (.seq (.reg [⟨some 158, none, .mv (.t 21)⟩, ⟨some 159, none, .un .not (.t 158)⟩, ⟨some 160, none, .mv (.t 159)⟩, ⟨some 161, (some (160, false)), .ld (some 2) (.t 19)⟩, ⟨some 162, (some (160, false)), .ld (some 2) (.t 20)⟩, ⟨some 163, (some (160, false)), .call true 44 [(.t 161), (.t 162)]⟩, ⟨some 164, (some (160, false)), .un .not (.t 163)⟩, ⟨some 165, none, .pk (.t 160) (.k (.bool true)) (.t 164)⟩])
       (.cond (.t 165)
        (.seq (.reg [⟨some 4, none, .mv (.k (.nilp))⟩, ⟨some 5, none, .mv (.k (.bool false))⟩])
        .ret)
        .skip)))))))))))))
   (.reg [⟨some 166, none, .bin .add 0 (.t 113) (.k (.int .i64 1))⟩, ⟨some 113, none, .mv (.t 166)⟩])))))))
 (.seq (.reg [⟨some 167, none, .mv (.t 6)⟩, ⟨some 4, none, .mv (.t 167)⟩, ⟨some 5, none, .mv (.k (.bool true))⟩])
 .ret)))))))))))
set_option maxRecDepth 100000 in
theorem er43 : (Try.f43.body.bind (erC Try.prog cfg 168)) = some c43 := by kernel_rfl
theorem in43 {args : List AV} {σ : St} {Q : AV → St → Prop} (hlen : args.length ≤ 168) (h : σ.Wf → (∀ i, i < args.length → Hab (args.getD i .undef)) → SWP Try.prog σ.next c43 (retQ σ.next [.t 4, .t 5] Q) (fun i => args.getD i .undef) σ) : TQ Try.prog 43 args σ Q := by
 obtain ⟨k, hb, hk⟩ := Option.bind_eq_some_iff.1 er43
 exact TQ_of (fn := Try.f43) Try.func43 (by kernel_rfl) hb (erC_is mixed hk) (by kernel_rfl) hlen h

/-! parquetry/parquetryref4.Put -/
/-! parquetry/parquetrylaw21.count -/
def c50 : C :=
 (.seq (.reg [⟨some 2, none, .mv (.k (.int .i64 0))⟩])
 (.seq (.reg [⟨some 3, none, .mv (.k (.int .i64 0))⟩])
 (.seq (.seq (.reg [⟨some 5, none, .mv (.t 0)⟩, ⟨some 6, none, .ln false (.t 5)⟩, ⟨some 7, none, .mv (.k (.int .i64 0))⟩])
 (.block 0
  (.loop
   (.seq (.reg [⟨some 8, none, .bin .lss 0 (.t 7) (.t 6)⟩])
   (.seq (.cond (.t 8)
    .skip
    (.exit 0))
   (.seq (.block 1
    (.seq (.reg [⟨some 9, none, .mv (.t 7)⟩, ⟨some 4, none, .mv (.t 9)⟩])
    (.reg [⟨some 10, none, .mv (.t 3)⟩, ⟨some 11, none, .mv (.t 0)⟩, ⟨some 12, none, .mv (.t 4)⟩, ⟨some 13, none, .ia 1 (.t 11) (.t 12)⟩, ⟨some 14, none, .ld none (.t 13)⟩, ⟨some 15, none, .ln false (.t 14)⟩, ⟨some 16, none, .bin .add 0 (.t 10) (.t 15)⟩, ⟨some 3, none, .mv (.t 16)⟩])))
   (.reg [⟨some 17, none, .bin .add 0 (.t 7) (.k (.int .i64 1))⟩, ⟨some 7, none, .mv (.t 17)⟩])))))))
 (.seq (.reg [⟨some 18, none, .mv (.t 3)⟩, ⟨some 2, none, .mv (.t 18)⟩])
 .ret))))
set_option maxRecDepth 100000 in
theorem er50 : (Try.f50.body.bind (erC Try.prog cfg 19)) = some c50 := by kernel_rfl
theorem in50 {args : List AV} {σ : St} {Q : AV → St → Prop} (hlen : args.length ≤ 19) (h : σ.Wf → (∀ i, i < args.length → Hab (args.getD i .undef)) → SWP Try.prog σ.next c50 (retQ σ.next [.t 2] Q) (fun i => args.getD i .undef) σ) : TQ Try.prog 50 args σ Q := by
 obtain ⟨k, hb, hk⟩ := Option.bind_eq_some_iff.1 er50
 exact TQ_of (fn := Try.f50) Try.func50 (by kernel_rfl) hb (erC_is mixed hk) (by kernel_rfl) hlen h

/-! (*parquetry/parquetrylaw21.stage).told -/
def c51 : C :=
 (.seq (.reg [⟨some 10, none, .mv (.k (.bool false))⟩])
 (.seq (.reg [⟨some 19, none, .mv (.t 0)⟩, ⟨some 20, none, .nc (.t 19)⟩, ⟨some 21, none, .fa 0 (.t 20)⟩, ⟨some 22, none, .ld none (.t 21)⟩, ⟨some 23, none, .call true 27 [(.t 22)]⟩, ⟨some 11, none, .mv (.t 23)⟩])
 (.seq (.reg [⟨some 24, none, .mv (.t 0)⟩, ⟨some 25, none, .nc (.t 24)⟩, ⟨some 26, none, .fa 2 (.t 25)⟩, ⟨some 27, none, .ld none (.t 26)⟩, ⟨some 28, none, .ln false (.t 27)⟩, ⟨some 12, none, .mv (.t 28)⟩])
 (.seq (.seq (.reg [⟨some 29, none, .mv (.t 2)⟩, ⟨some 30, none, .bin .neq 0 (.t 29) (.k (.int .i64 0))⟩, ⟨some 31, none, .mv (.t 30)⟩, ⟨some 32, (some (31, false)), .mv (.t 1)⟩, ⟨some 33, (some (31, false)), .ln false (.t 32)⟩, ⟨some 34, (some (31, false)), .mv (.t 12)⟩, ⟨some 35, (some (31, false)), .bin .neq 0 (.t 33) (.t 34)⟩, ⟨some 36, none, .pk (.t 31) (.k (.bool true)) (.t 35)⟩, ⟨some 37, none, .mv (.t 36)⟩, ⟨some 38, (some (37, false)), .mv (.t 11)⟩, ⟨some 39, (some (37, false)), .call true 50 [(.t 38)]⟩, ⟨some 40, (some (37, false)), .mv (.t 4)⟩, ⟨some 41, (some (37, false)), .bin .sub 0 (.t 39) (.t 40)⟩, ⟨some 42, (some (37, false)), .mv (.t 12)⟩, ⟨some 43, (some (37, false)), .bin .mul 0 (.k (.int .i64 32)) (.t 42)⟩, ⟨some 44, (some (37, false)), .mv (.t 12)⟩, ⟨some 45, (some (37, false)), .bin .sub 0 (.t 44) (.k (.int .i64 1))⟩, ⟨some 46, (some (37, false)), .bin .mul 0 (.t 43) (.t 45)⟩, ⟨some 47, (some (37, false)), .bin .gtr 0 (.t 41) (.t 46)⟩, ⟨some 48, none, .pk (.t 37) (.k (.bool true)) (.t 47)⟩])
 (.cond (.t 48)
  (.seq (.reg [⟨some 10, none, .mv (.k (.bool false))⟩])
  .ret)
  .skip))
 (.seq (.reg [⟨some 50, none, .mv (.t 11)⟩, ⟨some 51, none, .mv (.t 0)⟩, ⟨some 52, none, .nc (.t 51)⟩, ⟨some 53, none, .fa 1 (.t 52)⟩, ⟨some 54, none, .ld none (.t 53)⟩, ⟨some 55, none, .call false 43 [(.t 50), (.t 54)]⟩, ⟨some 49, none, .mv (.t 55)⟩, ⟨some 56, none, .ex (.t 49) 0⟩, ⟨some 57, none, .ex (.t 49) 1⟩, ⟨some 13, none, .mv (.t 56)⟩, ⟨some 14, none, .mv (.t 57)⟩])
 (.seq (.seq (.reg [⟨some 58, none, .mv (.t 14)⟩, ⟨some 59, none, .un .not (.t 58)⟩])
 (.cond (.t 59)
  (.seq (.reg [⟨some 10, none, .mv (.k (.bool false))⟩])
  .ret)
  .skip))
 (.seq (.seq (.reg [⟨some 60, none, .mv (.t 0)⟩, ⟨some 61, none, .nc (.t 60)⟩, ⟨some 62, none, .fa 2 (.t 61)⟩, ⟨some 63, none, .ld none (.t 62)⟩, ⟨some 64, none, .ln false (.t 63)⟩, ⟨some 65, none, .mv (.k (.int .i64 0))⟩])
 (.block 0
  (.loop
   (.seq (.reg [⟨some 66, none, .bin .lss 0 (.t 65) (.t 64)⟩])
   (.seq (.cond (.t 66)
    .skip
    (.exit 0))
   (.seq (.block 1
    (.seq (.reg [⟨some 67, none, .mv (.t 65)⟩, ⟨some 68, none, .ia 1 (.t 63) (.t 65)⟩, ⟨some 69, none, .ld none (.t 68)⟩, ⟨some 15, none, .mv (.t 67)⟩, ⟨some 16, none, .mv (.t 69)⟩])
    (.seq (.dr [[], [0], [1, 0], [2, 1, 0], [], [3, 4, 2, 1, 0], [5, 3, 4, 2, 1, 0], [], [], [7, 8], [9, 7, 8], [6, 10, 5, 3, 4, 2, 1, 0, 9, 7, 8], [11, 6, 10, 5, 3, 4, 2, 1, 0, 9, 7, 8], [12, 11, 6, 10, 5, 3, 4, 2, 1, 0, 9, 7, 8], [12, 11, 6, 10, 5, 3, 4, 2, 1, 0, 9, 7, 8], [], [15, 13, 0, 1, 2, 3, 4, 5, 6, 7, 8, 9, 10, 11, 12], [14, 16, 0, 1, 2, 3, 4, 5, 6, 7, 8, 9, 10, 11, 12, 13, 15]] [⟨some 71, none, .mv (.t 13)⟩, ⟨some 72, none, .nc (.t 71)⟩, ⟨some 73, none, .fa 2 (.t 72)⟩, ⟨some 74, none, .ld none (.t 73)⟩, ⟨some 75, none, .mv (.t 16)⟩, ⟨some 76, none, .ia 1 (.t 74) (.t 75)⟩, ⟨some 77, none, .ld none (.t 76)⟩, ⟨some 78, none, .mv (.t 1)⟩, ⟨some 79, none, .mv (.t 15)⟩, ⟨some 80, none, .ia 1 (.t 78) (.t 79)⟩, ⟨some 81, none, .ld none (.t 80)⟩, ⟨some 82, none, .lk true none (.agg [.lit 1 [], .lit 1 []]) (.t 77) (.t 81)⟩, ⟨some 70, none, .mv (.t 82)⟩, ⟨some 83, none, .ex (.t 70) 0⟩, ⟨some 84, none, .ex (.t 70) 1⟩, ⟨some 17, none, .al [.lit 1 [], .lit 1 []]⟩, ⟨none, none, .st 2 (.t 17) (.t 83)⟩, ⟨some 18, none, .mv (.t 84)⟩])
    (.seq (.drs [⟨some 85, none, .mv (.t 18)⟩, ⟨some 86, none, .un .not (.t 85)⟩, ⟨some 87, none, .mv (.t 86)⟩, ⟨some 88, (some (87, false)), .ld (some 2) (.t 17)⟩, ⟨some 89, (some (87, false)), .mv (.t 3)⟩, ⟨some 90, (some (87, false)), .mv (.t 15)⟩, ⟨some 91, (some (87, false)), .ia 2 (.t 89) (.t 90)⟩, ⟨some 92, (some (87, false)), .ld (some 2) (.t 91)⟩, ⟨some 93, (some (87, false)), .call true 44 [(.t 88), (.t 92)]⟩, ⟨some 94, (some (87, false)), .un .not (.t 93)⟩, ⟨some 95, none, .pk (.t 87) (.k (.bool true)) (.t 94)⟩])
    (.cond (.t 95)
     (.seq (.reg [⟨some 10, none, .mv (.k (.bool false))⟩])
     .ret)
     .skip)))))
   (.reg [⟨some 96, none, .bin .add 0 (.t 65) (.k (.int .i64 1))⟩, ⟨some 65, none, .mv (.t 96)⟩])))))))
 (.seq (.reg [⟨some 10, none, .mv (.k (.bool true))⟩])
 .ret))))))))
set_option maxRecDepth 100000 in
theorem er51 : (Try.f51.body.bind (erC Try.prog cfg 97)) = some c51 := by kernel_rfl
theorem in51 {args : List AV} {σ : St} {Q : AV → St → Prop} (hlen : args.length ≤ 97) (h : σ.Wf → (∀ i, i < args.length → Hab (args.getD i .undef)) → SWP Try.prog σ.next c51 (retQ σ.next [.t 10] Q) (fun i => args.getD i .undef) σ) : TQ Try.prog 51 args σ Q := by
 obtain ⟨k, hb, hk⟩ := Option.bind_eq_some_iff.1 er51
 exact TQ_of (fn := Try.f51) Try.func51 (by kernel_rfl) hb (erC_is mixed hk) (by kernel_rfl) hlen h

/-! parquetry/ring.Gather -/
def c52 : C :=
 (.seq (.reg [⟨some 8, none, .mv (.k (.nils))⟩, ⟨some 9, none, .mv (.k (.int .i64 0))⟩])
 (.seq (.seq (.reg [⟨some 15, none, .mv (.t 0)⟩, ⟨some 16, none, .mv (.t 1)⟩, ⟨some 17, none, .mv (.t 2)⟩, ⟨some 18, none, .call true 71 [(.t 15), (.t 16), (.t 17)]⟩, ⟨some 10, none, .mv (.t 18)⟩])
 (.seq (.reg [⟨some 19, none, .mv (.t 10)⟩, ⟨some 20, none, .bin .neq 0 (.t 19) (.k (.int .i64 0))⟩, ⟨some 21, none, .mv (.t 20)⟩, ⟨some 22, (some (21, false)), .mv (.t 3)⟩, ⟨some 23, (some (21, false)), .bin .lss 0 (.t 22) (.k (.int .i64 0))⟩, ⟨some 24, none, .pk (.t 21) (.k (.bool true)) (.t 23)⟩, ⟨some 25, none, .mv (.t 24)⟩, ⟨some 26, (some (25, false)), .mv (.t 3)⟩, ⟨some 27, (some (25, false)), .bin .geq 0 (.t 26) (.k (.int .i64 4))⟩, ⟨some 28, none, .pk (.t 25) (.k (.bool true)) (.t 27)⟩])
 (.cond (.t 28)
  (.seq (.reg [⟨some 8, none, .mv (.k (.nils))⟩, ⟨some 9, none, .mv (.k (.int .i64 1))⟩])
  .ret)
  .skip)))
 (.seq (.seq (.reg [⟨some 29, none, .mv (.t 1)⟩, ⟨some 30, none, .ln false (.t 29)⟩, ⟨some 31, none, .bin .eql 0 (.t 30) (.k (.int .i64 1))⟩])
 (.cond (.t 31)
  (.seq (.reg [⟨some 32, none, .mv (.t 2)⟩, ⟨some 33, none, .call true 72 [(.t 32)]⟩, ⟨some 8, none, .mv (.t 33)⟩, ⟨some 9, none, .mv (.k (.int .i64 0))⟩])
  .ret)
  .skip))
 (.seq (.seq (.reg [⟨some 34, none, .mv (.t 0)⟩, ⟨some 35, none, .mv (.t 1)⟩, ⟨some 36, none, .mv (.t 1)⟩, ⟨some 37, none, .ln false (.t 36)⟩, ⟨some 38, none, .bin .mul 0 (.k (.int .i64 2)) (.t 37)⟩, ⟨some 39, none, .bin .sub 0 (.t 38) (.k (.int .i64 1))⟩, ⟨some 40, none, .call false 74 [(.t 39)]⟩, ⟨some 41, none, .call true 73 [(.t 34), (.t 35), (.t 40)]⟩, ⟨some 11, none, .mv (.t 41)⟩])
 (.seq (.reg [⟨some 42, none, .mv (.t 11)⟩, ⟨some 43, none, .bin .neq 0 (.t 42) (.k (.int .i64 0))⟩])
 (.cond (.t 43)
  (.seq (.reg [⟨some 44, none, .mv (.t 11)⟩, ⟨some 8, none, .mv (.k (.nils))⟩, ⟨some 9, none, .mv (.t 44)⟩])
  .ret)
  .skip)))
 (.seq (.reg [⟨some 12, none, .mv (.k (.nils))⟩])
 (.seq (.seq (.reg [⟨some 45, none, .mv (.t 0)⟩, ⟨some 46, none, .mv (.t 1)⟩, ⟨some 47, none, .mv (.t 2)⟩, ⟨some 48, none, .call false 77 [(.t 45), (.t 46), (.t 47)]⟩, ⟨some 49, none, .ln false (.t 48)⟩, ⟨some 50, none, .mv (.k (.int .i64 0))⟩])
 (.block 0
  (.loop
   (.seq (.reg [⟨some 51, none, .bin .lss 0 (.t 50) (.t 49)⟩])
   (.seq (.cond (.t 51)
    .skip
    (.exit 0))
   (.seq (.block 1
    (.seq (.reg [⟨some 52, none, .mv (.t 50)⟩, ⟨some 53, none, .ia 1 (.t 48) (.t 50)⟩, ⟨some 54, none, .ld none (.t 53)⟩, ⟨some 13, none, .mv (.t 52)⟩, ⟨some 14, none, .mv (.t 54)⟩])
    (.reg [⟨some 55, none, .mv (.t 12)⟩, ⟨some 56, none, .mv (.t 0)⟩, ⟨some 57, none, .mv (.t 1)⟩, ⟨some 58, none, .mv (.t 13)⟩, ⟨some 59, none, .ia 1 (.t 57) (.t 58)⟩, ⟨some 60, none, .ld none (.t 59)⟩, ⟨some 61, none, .mv (.t 3)⟩, ⟨some 62, none, .bs false 1 [.int .i64 0] 1 [(0, (.t 61))]⟩, ⟨some 63, none, .bd [.int .i64 0, .lit 1 [], .lit 1 [], .lit 1 [], .int .i64 0, .int .i64 0, .str ⟨#[]⟩] [(0, 1, (.k (.int .i64 17))), (3, 1, (.t 62))]⟩, ⟨some 64, none, .mv (.t 14)⟩, ⟨some 65, none, .call false 78 [(.t 56), (.t 60), (.t 63), (.t 64)]⟩, ⟨some 66, none, .bs false 1 [.int .i64 0] 1 [(0, (.t 65))]⟩, ⟨some 67, none, .ap 1 8 (.t 55) (.t 66)⟩, ⟨some 12, none, .mv (.t 67)⟩])))
   (.reg [⟨some 68, none, .bin .add 0 (.t 50) (.k (.int .i64 1))⟩, ⟨some 50, none, .mv (.t 68)⟩])))))))
 (.seq (.reg [⟨some 69, none, .mv (.t 12)⟩, ⟨some 8, none, .mv (.t 69)⟩, ⟨some 9, none, .mv (.k (.int .i64 0))⟩])
 .ret)))))))
set_option maxRecDepth 100000 in
theorem er52 : (Try.f52.body.bind (erC Try.prog cfg 70)) = some c52 := by kernel_rfl
theorem in52 {args : List AV} {σ : St} {Q : AV → St → Prop} (hlen : args.length ≤ 70) (h : σ.Wf → (∀ i, i < args.length → Hab (args.getD i .undef)) → SWP Try.prog σ.next c52 (retQ σ.next [.t 8, .t 9] Q) (fun i => args.getD i .undef) σ) : TQ Try.prog 52 args σ Q := by
 obtain ⟨k, hb, hk⟩ := Option.bind_eq_some_iff.1 er52
 exact TQ_of (fn := Try.f52) Try.func52 (by kernel_rfl) hb (erC_is mixed hk) (by kernel_rfl) hlen h

/-! parquetry/parquetryref4.Join -/
/-! parquetry/ring.Swap -/
def c69 : C :=
 (.seq (.reg [⟨some 6, none, .mv (.k (.nils))⟩, ⟨some 7, none, .mv (.k (.int .i64 0))⟩])
 (.seq (.seq (.reg [⟨some 21, none, .mv (.t 2)⟩, ⟨some 22, none, .ln false (.t 21)⟩, ⟨some 23, none, .mv (.t 1)⟩, ⟨some 24, none, .ln false (.t 23)⟩, ⟨some 25, none, .bin .neq 0 (.t 22) (.t 24)⟩, ⟨some 26, none, .mv (.t 25)⟩, ⟨some 27, (some (26, false)), .mv (.t 1)⟩, ⟨some 28, (some (26, false)), .ln false (.t 27)⟩, ⟨some 29, (some (26, false)), .bin .eql 0 (.t 28) (.k (.int .i64 0))⟩, ⟨some 30, none, .pk (.t 26) (.k (.bool true)) (.t 29)⟩])
 (.cond (.t 30)
  (.seq (.reg [⟨some 6, none, .mv (.k (.nils))⟩, ⟨some 7, none, .mv (.k (.int .i64 1))⟩])
  .ret)
  .skip))
 (.seq (.seq (.reg [⟨some 31, none, .mv (.t 2)⟩, ⟨some 32, none, .ln false (.t 31)⟩, ⟨some 33, none, .mv (.k (.int .i64 0))⟩])
 (.block 0
  (.loop
   (.seq (.reg [⟨some 34, none, .bin .lss 0 (.t 33) (.t 32)⟩])
   (.seq (.cond (.t 34)
    .skip
    (.exit 0))
   (.seq (.block 1
    (.seq (.reg [⟨some 35, none, .ia 1 (.t 31) (.t 33)⟩, ⟨some 36, none, .ld none (.t 35)⟩, ⟨some 9, none, .mv (.t 36)⟩])
    (.seq (.reg [⟨some 37, none, .mv (.t 0)⟩, ⟨some 38, none, .mv (.t 1)⟩, ⟨some 39, none, .mv (.t 9)⟩, ⟨some 40, none, .call true 71 [(.t 37), (.t 38), (.t 39)]⟩, ⟨some 10, none, .mv (.t 40)⟩])
    (.seq (.reg [⟨some 41, none, .mv (.t 10)⟩, ⟨some 42, none, .bin .neq 0 (.t 41) (.k (.int .i64 0))⟩])
    (.cond (.t 42)
     (.seq (.reg [⟨some 43, none, .mv (.t 10)⟩, ⟨some 6, none, .mv (.k (.nils))⟩, ⟨some 7, none, .mv (.t 43)⟩])
     .ret)
     .skip)))))
   (.reg [⟨some 44, none, .bin .add 0 (.t 33) (.k (.int .i64 1))⟩, ⟨some 33, none, .mv (.t 44)⟩])))))))
 (.seq (.seq (.reg [⟨some 45, none, .mv (.t 0)⟩, ⟨some 46, none, .mv (.t 1)⟩, ⟨some 47, none, .mv (.t 1)⟩, ⟨some 48, none, .ln false (.t 47)⟩, ⟨some 49, none, .bin .sub 0 (.t 48) (.k (.int .i64 1))⟩, ⟨some 50, none, .bin .mul 0 (.k (.int .i64 2)) (.t 49)⟩, ⟨some 51, none, .call false 74 [(.t 50)]⟩, ⟨some 52, none, .call true 73 [(.t 45), (.t 46), (.t 51)]⟩, ⟨some 11, none, .mv (.t 52)⟩])
 (.seq (.reg [⟨some 53, none, .mv (.t 11)⟩, ⟨some 54, none, .bin .neq 0 (.t 53) (.k (.int .i64 0))⟩])
 (.cond (.t 54)
  (.seq (.reg [⟨some 55, none, .mv (.t 11)⟩, ⟨some 6, none, .mv (.k (.nils))⟩, ⟨some 7, none, .mv (.t 55)⟩])
  .ret)
  .skip)))
 (.seq (.reg [⟨some 12, none, .mv (.k (.nils))⟩])
 (.seq (.seq (.reg [⟨some 56, none, .mv (.t 1)⟩, ⟨some 57, none, .ln false (.t 56)⟩, ⟨some 58, none, .mv (.k (.int .i64 0))⟩])
 (.block 2
  (.loop
   (.seq (.reg [⟨some 59, none, .bin .lss 0 (.t 58) (.t 57)⟩])
   (.seq (.cond (.t 59)
    .skip
    (.exit 2))
   (.seq (.block 3
    (.seq (.reg [⟨some 60, none, .mv (.t 58)⟩, ⟨some 61, none, .ia 1 (.t 56) (.t 58)⟩, ⟨some 62, none, .ld none (.t 61)⟩, ⟨some 13, none, .mv (.t 60)⟩, ⟨some 14, none, .mv (.t 62)⟩])
    (.seq (.reg [⟨some 63, none, .mv (.t 1)⟩, ⟨some 64, none, .ln false (.t 63)⟩, ⟨some 65, none, .mv (.k (.int .i64 0))⟩])
    (.block 4
     (.loop
      (.seq (.reg [⟨some 66, none, .bin .lss 0 (.t 65) (.t 64)⟩])
      (.seq (.cond (.t 66)
       .skip
       (.exit 4))
      (.seq (.block 5
       (.seq (.reg [⟨some 67, none, .mv (.t 65)⟩, ⟨some 68, none, .ia 1 (.t 63) (.t 65)⟩, ⟨some 69, none, .ld none (.t 68)⟩, ⟨some 15, none, .mv (.t 67)⟩, ⟨some 16, none, .mv (.t 69)⟩])
       (.seq (.reg [⟨some 70, none, .mv (.t 13)⟩, ⟨some 71, none, .mv (.t 15)⟩, ⟨some 72, none, .bin .neq 0 (.t 70) (.t 71)⟩])
       (.cond (.t 72)
        (.reg [⟨some 73, none, .mv (.t 12)⟩, ⟨some 74, none, .mv (.t 16)⟩, ⟨some 75, none, .mv (.t 14)⟩, ⟨some 76, none, .mv (.t 2)⟩, ⟨some 77, none, .mv (.t 15)⟩, ⟨some 78, none, .ia 1 (.t 76) (.t 77)⟩, ⟨some 79, none, .ld none (.t 78)⟩, ⟨some 80, none, .mv (.t 13)⟩, ⟨some 81, none, .ia 1 (.t 79) (.t 80)⟩, ⟨some 82, none, .ld none (.t 81)⟩, ⟨some 83, none, .bd [.int .i64 0, .int .i64 0, .int .i64 0, .int .i64 0] [(0, 1, (.t 74)), (1, 1, (.t 75)), (2, 1, (.t 82))]⟩, ⟨some 84, none, .bs false 4 [.int .i64 0, .int .i64 0, .int .i64 0, .int .i64 0] 1 [(0, (.t 83))]⟩, ⟨some 85, none, .ap 4 32 (.t 73) (.t 84)⟩, ⟨some 12, none, .mv (.t 85)⟩])
        .skip))))
      (.reg [⟨some 86, none, .bin .add 0 (.t 65) (.k (.int .i64 1))⟩, ⟨some 65, none, .mv (.t 86)⟩])))))))))
   (.reg [⟨some 87, none, .bin .add 0 (.t 58) (.k (.int .i64 1))⟩, ⟨some 58, none, .mv (.t 87)⟩])))))))
 (.seq (.reg [⟨some 88, none, .mv (.t 0)⟩, ⟨some 89, none, .mv (.t 12)⟩, ⟨some 90, none, .call false 75 [(.t 88), (.t 89)]⟩, ⟨some 17, none, .mv (.t 90)⟩])
 (.seq (.reg [⟨some 91, none, .mv (.t 1)⟩, ⟨some 92, none, .ln false (.t 91)⟩, ⟨some 93, none, .ms 1 24 [.nils] (.t 92) (.t 92)⟩, ⟨some 18, none, .mv (.t 93)⟩])
 (.seq (.seq (.reg [⟨some 94, none, .mv (.t 1)⟩, ⟨some 95, none, .ln false (.t 94)⟩, ⟨some 96, none, .mv (.k (.int .i64 0))⟩])
 (.block 6
  (.loop
   (.seq (.reg [⟨some 97, none, .bin .lss 0 (.t 96) (.t 95)⟩])
   (.seq (.cond (.t 97)
    .skip
    (.exit 6))
   (.seq (.block 7
    (.seq (.reg [⟨some 98, none, .mv (.t 96)⟩, ⟨some 19, none, .mv (.t 98)⟩])
    (.seq (.reg [⟨some 99, none, .mv (.t 1)⟩, ⟨some 100, none, .ln false (.t 99)⟩, ⟨some 101, none, .mv (.k (.int .i64 0))⟩])
    (.block 8
     (.loop
      (.seq (.reg [⟨some 102, none, .bin .lss 0 (.t 101) (.t 100)⟩])
      (.seq (.cond (.t 102)
       .skip
       (.exit 8))
      (.seq (.block 9
       (.seq (.reg [⟨some 103, none, .mv (.t 101)⟩, ⟨some 20, none, .mv (.t 103)⟩])
       (.seq (.seq (.reg [⟨some 104, none, .mv (.t 19)⟩, ⟨some 105, none, .mv (.t 20)⟩, ⟨some 106, none, .bin .eql 0 (.t 104) (.t 105)⟩])
       (.cond (.t 106)
        (.seq (.drs [⟨some 107, none, .mv (.t 18)⟩, ⟨some 108, none, .mv (.t 19)⟩, ⟨some 109, none, .mv (.t 18)⟩, ⟨some 110, none, .mv (.t 19)⟩, ⟨some 111, none, .ia 1 (.t 109) (.t 110)⟩, ⟨some 112, none, .ld none (.t 111)⟩, ⟨some 113, none, .mv (.t 2)⟩, ⟨some 114, none, .mv (.t 19)⟩, ⟨some 115, none, .ia 1 (.t 113) (.t 114)⟩, ⟨some 116, none, .ld none (.t 115)⟩, ⟨some 117, none, .mv (.t 19)⟩, ⟨some 118, none, .ia 1 (.t 116) (.t 117)⟩, ⟨some 119, none, .ld none (.t 118)⟩, ⟨some 120, none, .bs false 1 [.int .i64 0] 1 [(0, (.t 119))]⟩, ⟨some 121, none, .ap 1 8 (.t 112) (.t 120)⟩, ⟨some 122, none, .ia 1 (.t 107) (.t 108)⟩, ⟨none, none, .st 1 (.t 122) (.t 121)⟩])
        (.exit 9))
        .skip))
       (.seq (.drs [⟨some 123, none, .mv (.t 18)⟩, ⟨some 124, none, .mv (.t 19)⟩, ⟨some 125, none, .mv (.t 18)⟩, ⟨some 126, none, .mv (.t 19)⟩, ⟨some 127, none, .ia 1 (.t 125) (.t 126)⟩, ⟨some 128, none, .ld none (.t 127)⟩, ⟨some 129, none, .mv (.t 17)⟩, ⟨some 130, none, .ia 1 (.t 129) (.k (.int .i64 0))⟩, ⟨some 131, none, .ld none (.t 130)⟩, ⟨some 132, none, .bs false 1 [.int .i64 0] 1 [(0, (.t 131))]⟩, ⟨some 133, none, .ap 1 8 (.t 128) (.t 132)⟩, ⟨some 134, none, .ia 1 (.t 123) (.t 124)⟩, ⟨none, none, .st 1 (.t 134) (.t 133)⟩])
       (.reg [⟨some 135, none, .mv (.t 17)⟩, ⟨some 136, none, .sc 1 (.t 135) (some (.k (.int .i64 1))) none none⟩, ⟨some 17, none, .mv (.t 136)⟩])))))
      (.reg [⟨some 137, none, .bin .add 0 (.t 101) (.k (.int .i64 1))⟩, ⟨some 101, none, .mv (.t 137)⟩])))))))))
   (.reg [⟨some 138, none, .bin .add 0 (.t 96) (.k (.int .i64 1))⟩, ⟨some 96, none, .mv (.t 138)⟩])))))))
 (.seq (.reg [⟨some 139, none, .mv (.t 18)⟩, ⟨some 6, none, .mv (.t 139)⟩, ⟨some 7, none, .mv (.k (.int .i64 0))⟩])
 .ret))))))))))
set_option maxRecDepth 100000 in
theorem er69 : (Try.f69.body.bind (erC Try.prog cfg 140)) = some c69 := by kernel_rfl
theorem in69 {args : List AV} {σ : St} {Q : AV → St → Prop} (hlen : args.length ≤ 140) (h : σ.Wf → (∀ i, i < args.length → Hab (args.getD i .undef)) → SWP Try.prog σ.next c69 (retQ σ.next [.t 6, .t 7] Q) (fun i => args.getD i .undef) σ) : TQ Try.prog 69 args σ Q := by
 obtain ⟨k, hb, hk⟩ := Option.bind_eq_some_iff.1 er69
 exact TQ_of (fn := Try.f69) Try.func69 (by kernel_rfl) hb (erC_is mixed hk) (by kernel_rfl) hlen h

/-! parquetry/ring.may -/
def c71 : C :=
 (.seq (.reg [⟨some 6, none, .mv (.k (.int .i64 0))⟩])
 (.seq (.seq (.reg [⟨some 9, none, .mv (.t 0)⟩, ⟨some 10, none, .bin .eql 2 (.t 9) (.k (.nilp))⟩, ⟨some 11, none, .mv (.t 10)⟩, ⟨some 12, (some (11, false)), .mv (.t 1)⟩, ⟨some 13, (some (11, false)), .ln false (.t 12)⟩, ⟨some 14, (some (11, false)), .bin .lss 0 (.t 13) (.k (.int .i64 1))⟩, ⟨some 15, none, .pk (.t 11) (.k (.bool true)) (.t 14)⟩, ⟨some 16, none, .mv (.t 15)⟩, ⟨some 17, (some (16, false)), .mv (.t 1)⟩, ⟨some 18, (some (16, false)), .ln false (.t 17)⟩, ⟨some 19, (some (16, false)), .bin .gtr 0 (.t 18) (.k (.int .i64 8))⟩, ⟨some 20, none, .pk (.t 16) (.k (.bool true)) (.t 19)⟩, ⟨some 21, none, .mv (.t 20)⟩, ⟨some 22, (some (21, false)), .mv (.t 2)⟩, ⟨some 23, (some (21, false)), .ln false (.t 22)⟩, ⟨some 24, (some (21, false)), .mv (.t 1)⟩, ⟨some 25, (some (21, false)), .ln false (.t 24)⟩, ⟨some 26, (some (21, false)), .bin .neq 0 (.t 23) (.t 25)⟩, ⟨some 27, none, .pk (.t 21) (.k (.bool true)) (.t 26)⟩])
 (.cond (.t 27)
  (.seq (.reg [⟨some 6, none, .mv (.k (.int .i64 1))⟩])
  .ret)
  .skip))
 (.seq (.seq (.reg [⟨some 28, none, .mv (.t 1)⟩, ⟨some 29, none, .ln false (.t 28)⟩, ⟨some 30, none, .mv (.k (.int .i64 0))⟩])
 (.block 0
  (.loop
   (.seq (.reg [⟨some 31, none, .bin .lss 0 (.t 30) (.t 29)⟩])
   (.seq (.cond (.t 31)
    .skip
    (.exit 0))
   (.seq (.block 1
    (.seq (.reg [⟨some 32, none, .mv (.t 30)⟩, ⟨some 33, none, .ia 1 (.t 28) (.t 30)⟩, ⟨some 34, none, .ld none (.t 33)⟩, ⟨some 7, none, .mv (.t 32)⟩, ⟨some 8, none, .mv (.t 34)⟩])
    (.seq (.reg [⟨some 35, none, .mv (.t 8)⟩, ⟨some 36, none, .bin .lss 0 (.t 35) (.k (.int .i64 0))⟩, ⟨some 37, none, .mv (.t 36)⟩, ⟨some 38, (some (37, false)), .mv (.t 8)⟩, ⟨some 39, (some (37, false)), .mv (.t 0)⟩, ⟨some 40, (some (37, false)), .call true 28 [(.t 39)]⟩, ⟨some 41, (some (37, false)), .bin .geq 0 (.t 38) (.t 40)⟩, ⟨some 42, none, .pk (.t 37) (.k (.bool true)) (.t 41)⟩, ⟨some 43, none, .mv (.t 42)⟩, ⟨some 44, (some (43, false)), .mv (.t 1)⟩, ⟨some 45, (some (43, false)), .mv (.t 7)⟩, ⟨some 46, (some (43, false)), .sc 1 (.t 44) none (some (.t 45)) none⟩, ⟨some 47, (some (43, false)), .mv (.t 8)⟩, ⟨some 48, (some (43, false)), .call true 107 [(.t 46), (.t 47)]⟩, ⟨some 49, none, .pk (.t 43) (.k (.bool true)) (.t 48)⟩, ⟨some 50, none, .mv (.t 49)⟩, ⟨some 51, (some (50, false)), .mv (.t 2)⟩, ⟨some 52, (some (50, false)), .mv (.t 7)⟩, ⟨some 53, (some (50, false)), .ia 1 (.t 51) (.t 52)⟩, ⟨some 54, (some (50, false)), .ld none (.t 53)⟩, ⟨some 55, (some (50, false)), .bin .lss 0 (.t 54) (.k (.int .i64 0))⟩, ⟨some 56, none, .pk (.t 50) (.k (.bool true)) (.t 55)⟩])
    (.cond (.t 56)
     (.seq (.reg [⟨some 6, none, .mv (.k (.int .i64 1))⟩])
     .ret)
     .skip))))
   (.reg [⟨some 57, none, .bin .add 0 (.t 30) (.k (.int .i64 1))⟩, ⟨some 30, none, .mv (.t 57)⟩])))))))
 (.seq (.reg [⟨some 6, none, .mv (.k (.int .i64 0))⟩])
 .ret))))
set_option maxRecDepth 100000 in
theorem er71 : (Try.f71.body.bind (erC Try.prog cfg 58)) = some c71 := by kernel_rfl
theorem in71 {args : List AV} {σ : St} {Q : AV → St → Prop} (hlen : args.length ≤ 58) (h : σ.Wf → (∀ i, i < args.length → Hab (args.getD i .undef)) → SWP Try.prog σ.next c71 (retQ σ.next [.t 6] Q) (fun i => args.getD i .undef) σ) : TQ Try.prog 71 args σ Q := by
 obtain ⟨k, hb, hk⟩ := Option.bind_eq_some_iff.1 er71
 exact TQ_of (fn := Try.f71) Try.func71 (by kernel_rfl) hb (erC_is mixed hk) (by kernel_rfl) hlen h

/-! parquetry/ring.Room -/
def c73 : C :=
 (.seq (.reg [⟨some 6, none, .mv (.k (.int .i64 0))⟩])
 (.seq (.seq (.reg [⟨some 9, none, .mv (.t 1)⟩, ⟨some 10, none, .ln false (.t 9)⟩, ⟨some 11, none, .mv (.k (.int .i64 0))⟩])
 (.block 0
  (.loop
   (.seq (.reg [⟨some 12, none, .bin .lss 0 (.t 11) (.t 10)⟩])
   (.seq (.cond (.t 12)
    .skip
    (.exit 0))
   (.seq (.block 1
    (.seq (.reg [⟨some 13, none, .mv (.t 11)⟩, ⟨some 14, none, .ia 1 (.t 9) (.t 11)⟩, ⟨some 15, none, .ld none (.t 14)⟩, ⟨some 7, none, .mv (.t 13)⟩, ⟨some 8, none, .mv (.t 15)⟩])
    (.seq (.reg [⟨some 16, none, .mv (.t 0)⟩, ⟨some 17, none, .mv (.t 8)⟩, ⟨some 18, none, .call true 61 [(.t 16), (.t 17)]⟩, ⟨some 19, none, .mv (.t 2)⟩, ⟨some 20, none, .mv (.t 7)⟩, ⟨some 21, none, .callv true (.t 19) [(.t 20)]⟩, ⟨some 22, none, .bin .lss 0 (.t 18) (.t 21)⟩])
    (.cond (.t 22)
     (.seq (.reg [⟨some 6, none, .mv (.k (.int .i64 3))⟩])
     .ret)
     .skip))))
   (.reg [⟨some 23, none, .bin .add 0 (.t 11) (.k (.int .i64 1))⟩, ⟨some 11, none, .mv (.t 23)⟩])))))))
 (.seq (.reg [⟨some 6, none, .mv (.k (.int .i64 0))⟩])
 .ret)))
set_option maxRecDepth 100000 in
theorem er73 : (Try.f73.body.bind (erC Try.prog cfg 24)) = some c73 := by kernel_rfl
theorem in73 {args : List AV} {σ : St} {Q : AV → St → Prop} (hlen : args.length ≤ 24) (h : σ.Wf → (∀ i, i < args.length → Hab (args.getD i .undef)) → SWP Try.prog σ.next c73 (retQ σ.next [.t 6] Q) (fun i => args.getD i .undef) σ) : TQ Try.prog 73 args σ Q := by
 obtain ⟨k, hb, hk⟩ := Option.bind_eq_some_iff.1 er73
 exact TQ_of (fn := Try.f73) Try.func73 (by kernel_rfl) hb (erC_is mixed hk) (by kernel_rfl) hlen h

/-! parquetry/ring.each -/
def c74 : C :=
 (.seq (.reg [⟨some 1, none, .bx (.t 0)⟩, ⟨some 2, none, .mv (.k (.raw .nilFunc))⟩])
 (.seq (.reg [⟨some 3, none, .mf 108 [(.t 1)]⟩, ⟨some 2, none, .mv (.t 3)⟩])
 .ret))
set_option maxRecDepth 100000 in
theorem er74 : (Try.f74.body.bind (erC Try.prog cfg 4)) = some c74 := by kernel_rfl
theorem in74 {args : List AV} {σ : St} {Q : AV → St → Prop} (hlen : args.length ≤ 4) (h : σ.Wf → (∀ i, i < args.length → Hab (args.getD i .undef)) → SWP Try.prog σ.next c74 (retQ σ.next [.t 2] Q) (fun i => args.getD i .undef) σ) : TQ Try.prog 74 args σ Q := by
 obtain ⟨k, hb, hk⟩ := Option.bind_eq_some_iff.1 er74
 exact TQ_of (fn := Try.f74) Try.func74 (by kernel_rfl) hb (erC_is mixed hk) (by kernel_rfl) hlen h

/-! parquetry/ring.deliver -/
def c75 : C :=
 (.seq (.reg [⟨some 4, none, .mv (.k (.nils))⟩])
 (.seq (.seq (.reg [⟨some 11, none, .mv (.t 1)⟩, ⟨some 12, none, .ln false (.t 11)⟩, ⟨some 13, none, .mv (.k (.int .i64 0))⟩])
 (.block 0
  (.loop
   (.seq (.reg [⟨some 14, none, .bin .lss 0 (.t 13) (.t 12)⟩])
   (.seq (.cond (.t 14)
    .skip
    (.exit 0))
   (.seq (.block 1
    (.seq (.reg [⟨some 15, none, .mv (.t 13)⟩, ⟨some 16, none, .ia 4 (.t 11) (.t 13)⟩, ⟨some 17, none, .ld (some 4) (.t 16)⟩, ⟨some 6, none, .al [.int .i64 0, .int .i64 0, .int .i64 0, .int .i64 0]⟩, ⟨some 5, none, .mv (.t 15)⟩, ⟨none, none, .st 4 (.t 6) (.t 17)⟩])
    (.seq (.reg [⟨some 18, none, .mv (.t 1)⟩, ⟨some 19, none, .mv (.t 5)⟩, ⟨some 20, none, .mv (.t 0)⟩, ⟨some 21, none, .call false 25 [(.t 20)]⟩, ⟨some 22, none, .ia 4 (.t 18) (.t 19)⟩, ⟨some 23, none, .fa 3 (.t 22)⟩, ⟨none, none, .st 1 (.t 23) (.t 21)⟩])
    (.drs [⟨some 24, none, .mv (.t 0)⟩, ⟨some 25, none, .fa 0 (.t 6)⟩, ⟨some 26, none, .ld none (.t 25)⟩, ⟨some 27, none, .fa 2 (.t 6)⟩, ⟨some 28, none, .ld none (.t 27)⟩, ⟨some 29, none, .bs false 1 [.int .i64 0] 1 [(0, (.t 28))]⟩, ⟨some 30, none, .fa 1 (.t 6)⟩, ⟨some 31, none, .ld none (.t 30)⟩, ⟨some 32, none, .mv (.t 1)⟩, ⟨some 33, none, .mv (.t 5)⟩, ⟨some 34, none, .ia 4 (.t 32) (.t 33)⟩, ⟨some 35, none, .fa 3 (.t 34)⟩, ⟨some 36, none, .ld none (.t 35)⟩, ⟨some 37, none, .bd [.int .i64 0, .int .i64 0, .lit 1 [], .int .i64 0, .lit 1 [], .lit 1 [], .lit 1 [], .int .i64 0, .int .i64 0, .str ⟨#[]⟩, .int .i64 0, .int .i64 0, .int .i64 0] [(0, 1, (.k (.int .i64 3))), (2, 1, (.t 29)), (11, 1, (.t 31)), (12, 1, (.t 36))]⟩, ⟨some 38, none, .call false 109 [(.t 24), (.t 26), (.t 37)]⟩]))))
   (.reg [⟨some 39, none, .bin .add 0 (.t 13) (.k (.int .i64 1))⟩, ⟨some 13, none, .mv (.t 39)⟩])))))))
 (.seq (.reg [⟨some 7, none, .mv (.k (.nils))⟩])
 (.seq (.seq (.reg [⟨some 40, none, .mv (.t 1)⟩, ⟨some 41, none, .ln false (.t 40)⟩, ⟨some 42, none, .mv (.k (.int .i64 0))⟩])
 (.block 2
  (.loop
   (.seq (.reg [⟨some 43, none, .bin .lss 0 (.t 42) (.t 41)⟩])
   (.seq (.cond (.t 43)
    .skip
    (.exit 2))
   (.seq (.block 3
    (.seq (.reg [⟨some 44, none, .ia 4 (.t 40) (.t 42)⟩, ⟨some 45, none, .ld (some 4) (.t 44)⟩, ⟨some 9, none, .al [.int .i64 0, .int .i64 0, .int .i64 0, .int .i64 0]⟩, ⟨none, none, .st 4 (.t 9) (.t 45)⟩])
    (.seq (.reg [⟨some 46, none, .mv (.t 0)⟩, ⟨some 47, none, .fa 1 (.t 9)⟩, ⟨some 48, none, .ld none (.t 47)⟩, ⟨some 49, none, .call false 23 [(.t 46), (.t 48)]⟩, ⟨some 10, none, .mv (.t 49)⟩])
    (.seq (.reg [⟨some 50, none, .mv (.t 0)⟩, ⟨some 51, none, .fa 1 (.t 9)⟩, ⟨some 52, none, .ld none (.t 51)⟩, ⟨some 53, none, .mv (.t 10)⟩, ⟨some 54, none, .fa 0 (.t 9)⟩, ⟨some 55, none, .ld none (.t 54)⟩, ⟨some 56, none, .fa 3 (.t 9)⟩, ⟨some 57, none, .ld none (.t 56)⟩, ⟨some 58, none, .bd [.int .i64 0, .int .i64 0, .lit 1 [], .int .i64 0, .lit 1 [], .lit 1 [], .lit 1 [], .int .i64 0, .int .i64 0, .str ⟨#[]⟩, .int .i64 0, .int .i64 0, .int .i64 0] [(0, 1, (.k (.int .i64 4))), (1, 1, (.t 53)), (11, 1, (.t 55)), (12, 1, (.t 57))]⟩, ⟨some 59, none, .call false 109 [(.t 50), (.t 52), (.t 58)]⟩])
    (.reg [⟨some 60, none, .mv (.t 7)⟩, ⟨some 61, none, .mv (.t 10)⟩, ⟨some 62, none, .bs false 1 [.int .i64 0] 1 [(0, (.t 61))]⟩, ⟨some 63, none, .ap 1 8 (.t 60) (.t 62)⟩, ⟨some 7, none, .mv (.t 63)⟩])))))
   (.reg [⟨some 64, none, .bin .add 0 (.t 42) (.k (.int .i64 1))⟩, ⟨some 42, none, .mv (.t 64)⟩])))))))
 (.seq (.reg [⟨some 65, none, .mv (.t 7)⟩, ⟨some 4, none, .mv (.t 65)⟩])
 .ret)))))
set_option maxRecDepth 100000 in
theorem er75 : (Try.f75.body.bind (erC Try.prog cfg 66)) = some c75 := by kernel_rfl
theorem in75 {args : List AV} {σ : St} {Q : AV → St → Prop} (hlen : args.length ≤ 66) (h : σ.Wf → (∀ i, i < args.length → Hab (args.getD i .undef)) → SWP Try.prog σ.next c75 (retQ σ.next [.t 4] Q) (fun i => args.getD i .undef) σ) : TQ Try.prog 75 args σ Q := by
 obtain ⟨k, hb, hk⟩ := Option.bind_eq_some_iff.1 er75
 exact TQ_of (fn := Try.f75) Try.func75 (by kernel_rfl) hb (erC_is mixed hk) (by kernel_rfl) hlen h

/-! parquetry/fold.Right -/
def c76 : C :=
 (.seq (.reg [⟨some 2, none, .mv (.k (.bool false))⟩])
 (.seq (.reg [⟨some 3, none, .mv (.t 0)⟩, ⟨some 4, none, .bin .geq 0 (.t 3) (.k (.int .i64 1))⟩, ⟨some 5, none, .mv (.t 4)⟩, ⟨some 6, (some (5, true)), .mv (.t 0)⟩, ⟨some 7, (some (5, true)), .bin .leq 0 (.t 6) (.k (.int .i64 4))⟩, ⟨some 8, none, .pk (.t 5) (.t 7) (.k (.bool false))⟩, ⟨some 2, none, .mv (.t 8)⟩])
 .ret))
set_option maxRecDepth 100000 in
theorem er76 : (Try.f76.body.bind (erC Try.prog cfg 9)) = some c76 := by kernel_rfl
theorem in76 {args : List AV} {σ : St} {Q : AV → St → Prop} (hlen : args.length ≤ 9) (h : σ.Wf → (∀ i, i < args.length → Hab (args.getD i .undef)) → SWP Try.prog σ.next c76 (retQ σ.next [.t 2] Q) (fun i => args.getD i .undef) σ) : TQ Try.prog 76 args σ Q := by
 obtain ⟨k, hb, hk⟩ := Option.bind_eq_some_iff.1 er76
 exact TQ_of (fn := Try.f76) Try.func76 (by kernel_rfl) hb (erC_is mixed hk) (by kernel_rfl) hlen h

/-! parquetry/ring.Everyone -/
def c77 : C :=
 (.seq (.reg [⟨some 6, none, .mv (.k (.nils))⟩])
 (.seq (.reg [⟨some 7, none, .mv (.k (.nils))⟩])
 (.seq (.seq (.reg [⟨some 16, none, .mv (.t 1)⟩, ⟨some 17, none, .ln false (.t 16)⟩, ⟨some 18, none, .mv (.k (.int .i64 0))⟩])
 (.block 0
  (.loop
   (.seq (.reg [⟨some 19, none, .bin .lss 0 (.t 18) (.t 17)⟩])
   (.seq (.cond (.t 19)
    .skip
    (.exit 0))
   (.seq (.block 1
    (.seq (.reg [⟨some 20, none, .mv (.t 18)⟩, ⟨some 21, none, .ia 1 (.t 16) (.t 18)⟩, ⟨some 22, none, .ld none (.t 21)⟩, ⟨some 8, none, .mv (.t 20)⟩, ⟨some 9, none, .mv (.t 22)⟩])
    (.seq (.reg [⟨some 23, none, .mv (.t 1)⟩, ⟨some 24, none, .ln false (.t 23)⟩, ⟨some 25, none, .mv (.k (.int .i64 0))⟩])
    (.block 2
     (.loop
      (.seq (.reg [⟨some 26, none, .bin .lss 0 (.t 25) (.t 24)⟩])
      (.seq (.cond (.t 26)
       .skip
       (.exit 2))
      (.seq (.block 3
       (.seq (.reg [⟨some 27, none, .mv (.t 25)⟩, ⟨some 28, none, .ia 1 (.t 23) (.t 25)⟩, ⟨some 29, none, .ld none (.t 28)⟩, ⟨some 10, none, .mv (.t 27)⟩, ⟨some 11, none, .mv (.t 29)⟩])
       (.seq (.reg [⟨some 30, none, .mv (.t 8)⟩, ⟨some 31, none, .mv (.t 10)⟩, ⟨some 32, none, .bin .neq 0 (.t 30) (.t 31)⟩])
       (.cond (.t 32)
        (.reg [⟨some 33, none, .mv (.t 7)⟩, ⟨some 34, none, .mv (.t 11)⟩, ⟨some 35, none, .mv (.t 9)⟩, ⟨some 36, none, .mv (.t 2)⟩, ⟨some 37, none, .mv (.t 10)⟩, ⟨some 38, none, .ia 1 (.t 36) (.t 37)⟩, ⟨some 39, none, .ld none (.t 38)⟩, ⟨some 40, none, .bd [.int .i64 0, .int .i64 0, .int .i64 0, .int .i64 0] [(0, 1, (.t 34)), (1, 1, (.t 35)), (2, 1, (.t 39))]⟩, ⟨some 41, none, .bs false 4 [.int .i64 0, .int .i64 0, .int .i64 0, .int .i64 0] 1 [(0, (.t 40))]⟩, ⟨some 42, none, .ap 4 32 (.t 33) (.t 41)⟩, ⟨some 7, none, .mv (.t 42)⟩])
        .skip))))
      (.reg [⟨some 43, none, .bin .add 0 (.t 25) (.k (.int .i64 1))⟩, ⟨some 25, none, .mv (.t 43)⟩])))))))))
   (.reg [⟨some 44, none, .bin .add 0 (.t 18) (.k (.int .i64 1))⟩, ⟨some 18, none, .mv (.t 44)⟩])))))))
 (.seq (.reg [⟨some 45, none, .mv (.t 0)⟩, ⟨some 46, none, .mv (.t 7)⟩, ⟨some 47, none, .call false 75 [(.t 45), (.t 46)]⟩, ⟨some 12, none, .mv (.t 47)⟩])
 (.seq (.reg [⟨some 48, none, .mv (.t 1)⟩, ⟨some 49, none, .ln false (.t 48)⟩, ⟨some 50, none, .ms 1 24 [.nils] (.t 49) (.t 49)⟩, ⟨some 13, none, .mv (.t 50)⟩])
 (.seq (.seq (.reg [⟨some 51, none, .mv (.t 1)⟩, ⟨some 52, none, .ln false (.t 51)⟩, ⟨some 53, none, .mv (.k (.int .i64 0))⟩])
 (.block 4
  (.loop
   (.seq (.reg [⟨some 54, none, .bin .lss 0 (.t 53) (.t 52)⟩])
   (.seq (.cond (.t 54)
    .skip
    (.exit 4))
   (.seq (.block 5
    (.seq (.reg [⟨some 55, none, .mv (.t 53)⟩, ⟨some 14, none, .mv (.t 55)⟩])
    (.seq (.reg [⟨some 56, none, .mv (.t 1)⟩, ⟨some 57, none, .ln false (.t 56)⟩, ⟨some 58, none, .mv (.k (.int .i64 0))⟩])
    (.block 6
     (.loop
      (.seq (.reg [⟨some 59, none, .bin .lss 0 (.t 58) (.t 57)⟩])
      (.seq (.cond (.t 59)
       .skip
       (.exit 6))
      (.seq (.block 7
       (.seq (.reg [⟨some 60, none, .mv (.t 58)⟩, ⟨some 15, none, .mv (.t 60)⟩])
       (.seq (.seq (.reg [⟨some 61, none, .mv (.t 14)⟩, ⟨some 62, none, .mv (.t 15)⟩, ⟨some 63, none, .bin .eql 0 (.t 61) (.t 62)⟩])
       (.cond (.t 63)
        (.seq (.drs [⟨some 64, none, .mv (.t 13)⟩, ⟨some 65, none, .mv (.t 14)⟩, ⟨some 66, none, .mv (.t 13)⟩, ⟨some 67, none, .mv (.t 14)⟩, ⟨some 68, none, .ia 1 (.t 66) (.t 67)⟩, ⟨some 69, none, .ld none (.t 68)⟩, ⟨some 70, none, .mv (.t 2)⟩, ⟨some 71, none, .mv (.t 14)⟩, ⟨some 72, none, .ia 1 (.t 70) (.t 71)⟩, ⟨some 73, none, .ld none (.t 72)⟩, ⟨some 74, none, .bs false 1 [.int .i64 0] 1 [(0, (.t 73))]⟩, ⟨some 75, none, .ap 1 8 (.t 69) (.t 74)⟩, ⟨some 76, none, .ia 1 (.t 64) (.t 65)⟩, ⟨none, none, .st 1 (.t 76) (.t 75)⟩])
        (.exit 7))
        .skip))
       (.seq (.drs [⟨some 77, none, .mv (.t 13)⟩, ⟨some 78, none, .mv (.t 14)⟩, ⟨some 79, none, .mv (.t 13)⟩, ⟨some 80, none, .mv (.t 14)⟩, ⟨some 81, none, .ia 1 (.t 79) (.t 80)⟩, ⟨some 82, none, .ld none (.t 81)⟩, ⟨some 83, none, .mv (.t 12)⟩, ⟨some 84, none, .ia 1 (.t 83) (.k (.int .i64 0))⟩, ⟨some 85, none, .ld none (.t 84)⟩, ⟨some 86, none, .bs false 1 [.int .i64 0] 1 [(0, (.t 85))]⟩, ⟨some 87, none, .ap 1 8 (.t 82) (.t 86)⟩, ⟨some 88, none, .ia 1 (.t 77) (.t 78)⟩, ⟨none, none, .st 1 (.t 88) (.t 87)⟩])
       (.reg [⟨some 89, none, .mv (.t 12)⟩, ⟨some 90, none, .sc 1 (.t 89) (some (.k (.int .i64 1))) none none⟩, ⟨some 12, none, .mv (.t 90)⟩])))))
      (.reg [⟨some 91, none, .bin .add 0 (.t 58) (.k (.int .i64 1))⟩, ⟨some 58, none, .mv (.t 91)⟩])))))))))
   (.reg [⟨some 92, none, .bin .add 0 (.t 53) (.k (.int .i64 1))⟩, ⟨some 53, none, .mv (.t 92)⟩])))))))
 (.seq (.reg [⟨some 93, none, .mv (.t 13)⟩, ⟨some 6, none, .mv (.t 93)⟩])
 .ret)))))))
set_option maxRecDepth 100000 in
theorem er77 : (Try.f77.body.bind (erC Try.prog cfg 94)) = some c77 := by kernel_rfl
theorem in77 {args : List AV} {σ : St} {Q : AV → St → Prop} (hlen : args.length ≤ 94) (h : σ.Wf → (∀ i, i < args.length → Hab (args.getD i .undef)) → SWP Try.prog σ.next c77 (retQ σ.next [.t 6] Q) (fun i => args.getD i .undef) σ) : TQ Try.prog 77 args σ Q := by
 obtain ⟨k, hb, hk⟩ := Option.bind_eq_some_iff.1 er77
 exact TQ_of (fn := Try.f77) Try.func77 (by kernel_rfl) hb (erC_is mixed hk) (by kernel_rfl) hlen h

/-! parquetry/ring.Work -/
def c78 : C :=
 (.seq (.reg [⟨some 6, none, .bx (.t 2)⟩, ⟨some 8, none, .mv (.k (.int .i64 0))⟩])
 (.seq (.reg [⟨some 10, none, .mv (.t 0)⟩, ⟨some 11, none, .mv (.t 1)⟩, ⟨some 12, none, .call false 23 [(.t 10), (.t 11)]⟩, ⟨some 9, none, .mv (.t 12)⟩])
 (.seq (.reg [⟨some 13, none, .mv (.t 0)⟩, ⟨some 14, none, .mv (.t 1)⟩, ⟨some 15, none, .mv (.t 9)⟩, ⟨some 16, none, .mv (.t 3)⟩, ⟨some 17, none, .ld (some 7) (.t 6)⟩, ⟨some 18, none, .bd [.int .i64 0, .int .i64 0, .lit 1 [], .int .i64 0, .lit 1 [], .lit 1 [], .lit 1 [], .int .i64 0, .int .i64 0, .str ⟨#[]⟩, .int .i64 0, .int .i64 0, .int .i64 0] [(0, 1, (.k (.int .i64 2))), (1, 1, (.t 15)), (2, 1, (.t 16)), (3, 7, (.t 17))]⟩, ⟨some 19, none, .call false 109 [(.t 13), (.t 14), (.t 18)]⟩])
 (.seq (.reg [⟨some 20, none, .mv (.t 9)⟩, ⟨some 8, none, .mv (.t 20)⟩])
 .ret))))
set_option maxRecDepth 100000 in
theorem er78 : (Try.f78.body.bind (erC Try.prog cfg 21)) = some c78 := by kernel_rfl
theorem in78 {args : List AV} {σ : St} {Q : AV → St → Prop} (hlen : args.length ≤ 21) (h : σ.Wf → (∀ i, i < args.length → Hab (args.getD i .undef)) → SWP Try.prog σ.next c78 (retQ σ.next [.t 8] Q) (fun i => args.getD i .undef) σ) : TQ Try.prog 78 args σ Q := by
 obtain ⟨k, hb, hk⟩ := Option.bind_eq_some_iff.1 er78
 exact TQ_of (fn := Try.f78) Try.func78 (by kernel_rfl) hb (erC_is mixed hk) (by kernel_rfl) hlen h

/-! parquetry/ring.folds -/
def c79 : C :=
 (.seq (.reg [⟨some 2, none, .mv (.k (.int .i64 0))⟩])
 (.seq (.seq (.reg [⟨some 3, none, .mv (.t 0)⟩])
 (.block 0
  (.seq (.reg [⟨some 5, none, .bin .eql 0 (.t 3) (.k (.int .i64 1))⟩, ⟨some 4, none, .mv (.t 5)⟩])
  (.cond (.t 4)
   (.seq (.reg [⟨some 2, none, .mv (.k (.int .i64 6))⟩])
   .ret)
   (.seq (.reg [⟨some 7, none, .bin .eql 0 (.t 3) (.k (.int .i64 2))⟩, ⟨some 6, none, .mv (.t 7)⟩])
   (.cond (.t 6)
    (.seq (.reg [⟨some 2, none, .mv (.k (.int .i64 8))⟩])
    .ret)
    (.seq (.reg [⟨some 9, none, .bin .eql 0 (.t 3) (.k (.int .i64 3))⟩, ⟨some 8, none, .mv (.t 9)⟩])
    (.cond (.t 8)
     (.seq (.reg [⟨some 2, none, .mv (.k (.int .i64 9))⟩])
     .ret)
     .skip))))))))
 (.seq (.reg [⟨some 2, none, .mv (.k (.int .i64 10))⟩])
 .ret)))
set_option maxRecDepth 100000 in
theorem er79 : (Try.f79.body.bind (erC Try.prog cfg 10)) = some c79 := by kernel_rfl
theorem in79 {args : List AV} {σ : St} {Q : AV → St → Prop} (hlen : args.length ≤ 10) (h : σ.Wf → (∀ i, i < args.length → Hab (args.getD i .undef)) → SWP Try.prog σ.next c79 (retQ σ.next [.t 2] Q) (fun i => args.getD i .undef) σ) : TQ Try.prog 79 args σ Q := by
 obtain ⟨k, hb, hk⟩ := Option.bind_eq_some_iff.1 er79
 exact TQ_of (fn := Try.f79) Try.func79 (by kernel_rfl) hb (erC_is mixed hk) (by kernel_rfl) hlen h

/-! parquetry/ring.Cast$1 -/
/-! parquetry/parquetryref20.New -/
def c82 : C :=
 (.seq (.reg [⟨some 4, none, .mv (.k (.nilp))⟩, ⟨some 5, none, .mv (.k (.int .i64 0))⟩])
 (.seq (.seq (.reg [⟨some 11, none, .mv (.t 0)⟩, ⟨some 12, none, .call true 57 [(.t 11)]⟩, ⟨some 6, none, .mv (.t 12)⟩])
 (.seq (.reg [⟨some 13, none, .mv (.t 6)⟩, ⟨some 14, none, .bin .neq 0 (.t 13) (.k (.int .i64 0))⟩])
 (.cond (.t 14)
  (.seq (.reg [⟨some 15, none, .mv (.t 6)⟩, ⟨some 4, none, .mv (.k (.nilp))⟩, ⟨some 5, none, .mv (.t 15)⟩])
  .ret)
  .skip)))
 (.seq (.seq (.reg [⟨some 16, none, .mv (.t 1)⟩, ⟨some 17, none, .ln false (.t 16)⟩, ⟨some 18, none, .mv (.t 0)⟩, ⟨some 19, none, .ln false (.t 18)⟩, ⟨some 20, none, .bin .neq 0 (.t 17) (.t 19)⟩])
 (.cond (.t 20)
  (.seq (.reg [⟨some 4, none, .mv (.k (.nilp))⟩, ⟨some 5, none, .mv (.k (.int .i64 1))⟩])
  .ret)
  .skip))
 (.seq (.seq (.reg [⟨some 21, none, .mv (.t 1)⟩, ⟨some 22, none, .ln false (.t 21)⟩, ⟨some 23, none, .mv (.k (.int .i64 0))⟩])
 (.block 0
  (.loop
   (.seq (.reg [⟨some 24, none, .bin .lss 0 (.t 23) (.t 22)⟩])
   (.seq (.cond (.t 24)
    .skip
    (.exit 0))
   (.seq (.block 1
    (.seq (.reg [⟨some 25, none, .mv (.t 23)⟩, ⟨some 7, none, .mv (.t 25)⟩])
    (.seq (.reg [⟨some 26, none, .mv (.t 1)⟩, ⟨some 27, none, .mv (.t 7)⟩, ⟨some 28, none, .ia 1 (.t 26) (.t 27)⟩, ⟨some 29, none, .ld none (.t 28)⟩, ⟨some 30, none, .ln false (.t 29)⟩, ⟨some 31, none, .mv (.k (.int .i64 0))⟩])
    (.block 2
     (.loop
      (.seq (.reg [⟨some 32, none, .bin .lss 0 (.t 31) (.t 30)⟩])
      (.seq (.cond (.t 32)
       .skip
       (.exit 2))
      (.seq (.block 3
       (.seq (.reg [⟨some 33, none, .ia 2 (.t 29) (.t 31)⟩, ⟨some 34, none, .ld (some 2) (.t 33)⟩, ⟨some 9, none, .al [.lit 1 [], .lit 1 []]⟩, ⟨none, none, .st 2 (.t 9) (.t 34)⟩])
       (.seq (.reg [⟨some 35, none, .ld (some 2) (.t 9)⟩, ⟨some 36, none, .call true 92 [(.t 35)]⟩, ⟨some 37, none, .un .not (.t 36)⟩])
       (.cond (.t 37)
        (.seq (.reg [⟨some 4, none, .mv (.k (.nilp))⟩, ⟨some 5, none, .mv (.k (.int .i64 1))⟩])
        .ret)
        .skip))))
      (.reg [⟨some 38, none, .bin .add 0 (.t 31) (.k (.int .i64 1))⟩, ⟨some 31, none, .mv (.t 38)⟩])))))))))
   (.reg [⟨some 39, none, .bin .add 0 (.t 23) (.k (.int .i64 1))⟩, ⟨some 23, none, .mv (.t 39)⟩])))))))
 (.seq (.dr2 [[], [], [], [2], [3, 2], [], [5], [6, 4, 5, 3, 2], [0, 1, 4, 7, 3, 2, 6, 5], [8, 0, 1, 4, 7, 3, 2, 6, 5], [9, 0, 1, 2, 3, 4, 5, 6, 7, 8]] [⟨some 40, none, .mv (.t 0)⟩, ⟨some 41, none, .mv (.t 1)⟩, ⟨some 42, none, .mv (.t 0)⟩, ⟨some 43, none, .ln false (.t 42)⟩, ⟨some 44, none, .ms 1 8 [.int .i64 0] (.t 43) (.t 43)⟩, ⟨some 45, none, .mv (.t 0)⟩, ⟨some 46, none, .ln false (.t 45)⟩, ⟨some 47, none, .ms 1 8 [.int .i64 0] (.t 46) (.t 46)⟩, ⟨some 48, none, .bd [.nils, .nils, .nils, .nils, .nils, .int .i64 0, .nils] [(0, 1, (.t 40)), (1, 1, (.t 41)), (3, 1, (.t 44)), (6, 1, (.t 47))]⟩, ⟨some 49, none, .bx (.t 48)⟩, ⟨some 10, none, .mv (.t 49)⟩] [[], [0], [1, 0], [], [], [], [5], [6, 2, 5, 1, 0], [3, 4, 7, 2, 6, 5, 1, 0], [8, 3, 4, 7, 2, 6, 5, 1, 0], [9, 3, 4, 5, 6, 7, 0, 1, 2, 8]] [⟨some 45, none, .mv (.t 0)⟩, ⟨some 46, none, .ln false (.t 45)⟩, ⟨some 47, none, .ms 1 8 [.int .i64 0] (.t 46) (.t 46)⟩, ⟨some 40, none, .mv (.t 0)⟩, ⟨some 41, none, .mv (.t 1)⟩, ⟨some 42, none, .mv (.t 0)⟩, ⟨some 43, none, .ln false (.t 42)⟩, ⟨some 44, none, .ms 1 8 [.int .i64 0] (.t 43) (.t 43)⟩, ⟨some 48, none, .bd [.nils, .nils, .nils, .nils, .nils, .int .i64 0, .nils] [(0, 1, (.t 40)), (1, 1, (.t 41)), (3, 1, (.t 44)), (6, 1, (.t 47))]⟩, ⟨some 49, none, .bx (.t 48)⟩, ⟨some 10, none, .mv (.t 49)⟩])
 (.seq (.seq (.reg [⟨some 50, none, .mv (.t 0)⟩, ⟨some 51, none, .ln false (.t 50)⟩, ⟨some 52, none, .mv (.k (.int .i64 0))⟩])
 (.block 4
  (.loop
   (.seq (.reg [⟨some 53, none, .bin .lss 0 (.t 52) (.t 51)⟩])
   (.seq (.cond (.t 53)
    .skip
    (.exit 4))
   (.seq (.block 5
    (.reg [⟨some 54, none, .mv (.t 10)⟩, ⟨some 55, none, .mv (.t 10)⟩, ⟨some 56, none, .nc (.t 55)⟩, ⟨some 57, none, .fa 2 (.t 56)⟩, ⟨some 58, none, .ld none (.t 57)⟩, ⟨some 59, none, .mm none⟩, ⟨some 60, none, .bs false 1 [.nilmap] 1 [(0, (.t 59))]⟩, ⟨some 61, none, .ap 1 8 (.t 58) (.t 60)⟩, ⟨some 62, none, .nc (.t 54)⟩, ⟨some 63, none, .fa 2 (.t 62)⟩, ⟨none, none, .st 1 (.t 63) (.t 61)⟩]))
   (.reg [⟨some 64, none, .bin .add 0 (.t 52) (.k (.int .i64 1))⟩, ⟨some 52, none, .mv (.t 64)⟩])))))))
 (.seq (.reg [⟨some 65, none, .mv (.t 10)⟩, ⟨some 4, none, .mv (.t 65)⟩, ⟨some 5, none, .mv (.k (.int .i64 0))⟩])
 .ret)))))))
set_option maxRecDepth 100000 in
theorem er82 : (Try.f82.body.bind (erC Try.prog cfg 66)) = some c82 := by kernel_rfl
theorem in82 {args : List AV} {σ : St} {Q : AV → St → Prop} (hlen : args.length ≤ 66) (h : σ.Wf → (∀ i, i < args.length → Hab (args.getD i .undef)) → SWP Try.prog σ.next c82 (retQ σ.next [.t 4, .t 5] Q) (fun i => args.getD i .undef) σ) : TQ Try.prog 82 args σ Q := by
 obtain ⟨k, hb, hk⟩ := Option.bind_eq_some_iff.1 er82
 exact TQ_of (fn := Try.f82) Try.func82 (by kernel_rfl) hb (erC_is mixed hk) (by kernel_rfl) hlen h

/-! (*parquetry/parquetryref20.Machine).Step -/
def c83 : C :=
 (.seq (.reg [⟨some 4, none, .mv (.k (.bool false))⟩, ⟨some 5, none, .mv (.k (.int .i64 0))⟩])
 (.seq (.seq (.drs [⟨some 8, none, .mv (.t 1)⟩, ⟨some 9, none, .bin .lss 0 (.t 8) (.k (.int .i64 0))⟩, ⟨some 10, none, .mv (.t 9)⟩, ⟨some 11, (some (10, false)), .mv (.t 1)⟩, ⟨some 12, (some (10, false)), .mv (.t 0)⟩, ⟨some 13, (some (10, false)), .nc (.t 12)⟩, ⟨some 14, (some (10, false)), .fa 0 (.t 13)⟩, ⟨some 15, (some (10, false)), .ld none (.t 14)⟩, ⟨some 16, (some (10, false)), .ln false (.t 15)⟩, ⟨some 17, (some (10, false)), .bin .geq 0 (.t 11) (.t 16)⟩, ⟨some 18, none, .pk (.t 10) (.k (.bool true)) (.t 17)⟩, ⟨some 19, none, .mv (.t 18)⟩, ⟨some 20, (some (19, false)), .mv (.t 0)⟩, ⟨some 21, (some (19, false)), .nc (.t 20)⟩, ⟨some 22, (some (19, false)), .fa 3 (.t 21)⟩, ⟨some 23, (some (19, false)), .ld none (.t 22)⟩, ⟨some 24, (some (19, false)), .mv (.t 1)⟩, ⟨some 25, (some (19, false)), .ia 1 (.t 23) (.t 24)⟩, ⟨some 26, (some (19, false)), .ld none (.t 25)⟩, ⟨some 27, (some (19, false)), .mv (.t 0)⟩, ⟨some 28, (some (19, false)), .nc (.t 27)⟩, ⟨some 29, (some (19, false)), .fa 0 (.t 28)⟩, ⟨some 30, (some (19, false)), .ld none (.t 29)⟩, ⟨some 31, (some (19, false)), .mv (.t 1)⟩, ⟨some 32, (some (19, false)), .ia 1 (.t 30) (.t 31)⟩, ⟨some 33, (some (19, false)), .ld none (.t 32)⟩, ⟨some 34, (some (19, false)), .ln false (.t 33)⟩, ⟨some 35, (some (19, false)), .bin .geq 0 (.t 26) (.t 34)⟩, ⟨some 36, none, .pk (.t 19) (.k (.bool true)) (.t 35)⟩])
 (.cond (.t 36)
  (.seq (.reg [⟨some 4, none, .mv (.k (.bool false))⟩, ⟨some 5, none, .mv (.k (.int .i64 0))⟩])
  .ret)
  .skip))
 (.seq (.seq (.reg [⟨some 37, none, .mv (.t 0)⟩, ⟨some 38, none, .nc (.t 37)⟩, ⟨some 39, none, .fa 6 (.t 38)⟩, ⟨some 40, none, .ld none (.t 39)⟩, ⟨some 41, none, .mv (.t 1)⟩, ⟨some 42, none, .ia 1 (.t 40) (.t 41)⟩, ⟨some 43, none, .ld none (.t 42)⟩, ⟨some 44, none, .bin .eql 0 (.t 43) (.k (.int .i64 0))⟩])
 (.cond (.t 44)
  (.seq (.reg [⟨some 46, none, .mv (.t 0)⟩, ⟨some 47, none, .mv (.t 1)⟩, ⟨some 48, none, .call false 112 [(.t 46), (.t 47)]⟩, ⟨some 45, none, .mv (.t 48)⟩, ⟨some 49, none, .ex (.t 45) 0⟩, ⟨some 50, none, .ex (.t 45) 1⟩, ⟨some 6, none, .mv (.t 49)⟩, ⟨some 7, none, .mv (.t 50)⟩])
  (.seq (.reg [⟨some 51, none, .mv (.t 0)⟩, ⟨some 52, none, .nc (.t 51)⟩, ⟨some 53, none, .fa 6 (.t 52)⟩, ⟨some 54, none, .ld none (.t 53)⟩, ⟨some 55, none, .mv (.t 1)⟩, ⟨some 56, none, .mv (.t 7)⟩, ⟨some 57, none, .ia 1 (.t 54) (.t 55)⟩, ⟨none, none, .st 1 (.t 57) (.t 56)⟩])
  (.seq (.reg [⟨some 58, none, .mv (.t 6)⟩, ⟨some 59, none, .mv (.t 7)⟩, ⟨some 4, none, .mv (.t 58)⟩, ⟨some 5, none, .mv (.t 59)⟩])
  .ret)))
  .skip))
 (.seq (.drs [⟨some 60, none, .mv (.t 0)⟩, ⟨some 61, none, .nc (.t 60)⟩, ⟨some 62, none, .fa 6 (.t 61)⟩, ⟨some 63, none, .ld none (.t 62)⟩, ⟨some 64, none, .mv (.t 1)⟩, ⟨some 65, none, .ia 1 (.t 63) (.t 64)⟩, ⟨some 66, none, .ld none (.t 65)⟩, ⟨some 4, none, .mv (.k (.bool false))⟩, ⟨some 5, none, .mv (.t 66)⟩])
 .ret))))
set_option maxRecDepth 100000 in
theorem er83 : (Try.f83.body.bind (erC Try.prog cfg 67)) = some c83 := by kernel_rfl
theorem in83 {args : List AV} {σ : St} {Q : AV → St → Prop} (hlen : args.length ≤ 67) (h : σ.Wf → (∀ i, i < args.length → Hab (args.getD i .undef)) → SWP Try.prog σ.next c83 (retQ σ.next [.t 4, .t 5] Q) (fun i => args.getD i .undef) σ) : TQ Try.prog 83 args σ Q := by
 obtain ⟨k, hb, hk⟩ := Option.bind_eq_some_iff.1 er83
 exact TQ_of (fn := Try.f83) Try.func83 (by kernel_rfl) hb (erC_is mixed hk) (by kernel_rfl) hlen h

/-! (*parquetry/parquetryref20.Machine).Fair -/
def c84 : C :=
 (.seq (.reg [⟨some 2, none, .mv (.k (.bool false))⟩, ⟨some 3, none, .mv (.k (.int .i64 0))⟩])
 (.block 0
  (.loop
   (.block 1
    (.seq (.reg [⟨some 4, none, .mv (.k (.bool false))⟩])
    (.seq (.seq (.reg [⟨some 8, none, .mv (.t 0)⟩, ⟨some 9, none, .nc (.t 8)⟩, ⟨some 10, none, .fa 0 (.t 9)⟩, ⟨some 11, none, .ld none (.t 10)⟩, ⟨some 12, none, .ln false (.t 11)⟩, ⟨some 13, none, .mv (.k (.int .i64 0))⟩])
    (.block 2
     (.loop
      (.seq (.reg [⟨some 14, none, .bin .lss 0 (.t 13) (.t 12)⟩])
      (.seq (.cond (.t 14)
       .skip
       (.exit 2))
      (.seq (.block 3
       (.seq (.reg [⟨some 15, none, .mv (.t 13)⟩, ⟨some 5, none, .mv (.t 15)⟩])
       (.seq (.reg [⟨some 17, none, .mv (.t 0)⟩, ⟨some 18, none, .mv (.t 5)⟩, ⟨some 19, none, .call false 83 [(.t 17), (.t 18)]⟩, ⟨some 16, none, .mv (.t 19)⟩, ⟨some 20, none, .ex (.t 16) 0⟩, ⟨some 21, none, .ex (.t 16) 1⟩, ⟨some 6, none, .mv (.t 20)⟩, ⟨some 7, none, .mv (.t 21)⟩])
       (.seq (.seq (.reg [⟨some 22, none, .mv (.t 7)⟩, ⟨some 23, none, .bin .neq 0 (.t 22) (.k (.int .i64 0))⟩])
       (.cond (.t 23)
        (.seq (.reg [⟨some 24, none, .mv (.t 7)⟩, ⟨some 2, none, .mv (.k (.bool false))⟩, ⟨some 3, none, .mv (.t 24)⟩])
        .ret)
        .skip))
       (.reg [⟨some 25, none, .mv (.t 4)⟩, ⟨some 26, none, .mv (.t 25)⟩, ⟨some 27, (some (26, false)), .mv (.t 6)⟩, ⟨some 28, none, .pk (.t 26) (.k (.bool true)) (.t 27)⟩, ⟨some 4, none, .mv (.t 28)⟩])))))
      (.reg [⟨some 29, none, .bin .add 0 (.t 13) (.k (.int .i64 1))⟩, ⟨some 13, none, .mv (.t 29)⟩])))))))
    (.seq (.reg [⟨some 30, none, .mv (.t 4)⟩, ⟨some 31, none, .un .not (.t 30)⟩])
    (.cond (.t 31)
     (.seq (.reg [⟨some 32, none, .mv (.t 0)⟩, ⟨some 33, none, .call true 113 [(.t 32)]⟩, ⟨some 2, none, .mv (.t 33)⟩, ⟨some 3, none, .mv (.k (.int .i64 0))⟩])
     .ret)
     .skip))))))))
set_option maxRecDepth 100000 in
theorem er84 : (Try.f84.body.bind (erC Try.prog cfg 34)) = some c84 := by kernel_rfl
theorem in84 {args : List AV} {σ : St} {Q : AV → St → Prop} (hlen : args.length ≤ 34) (h : σ.Wf → (∀ i, i < args.length → Hab (args.getD i .undef)) → SWP Try.prog σ.next c84 (retQ σ.next [.t 2, .t 3] Q) (fun i => args.getD i .undef) σ) : TQ Try.prog 84 args σ Q := by
 obtain ⟨k, hb, hk⟩ := Option.bind_eq_some_iff.1 er84
 exact TQ_of (fn := Try.f84) Try.func84 (by kernel_rfl) hb (erC_is mixed hk) (by kernel_rfl) hlen h

/-! slices.Contains[[]int,int] -/
def c107 : C :=
 (.seq (.reg [⟨some 4, none, .mv (.k (.bool false))⟩])
 (.seq (.reg [⟨some 5, none, .mv (.t 0)⟩, ⟨some 6, none, .mv (.t 1)⟩, ⟨some 7, none, .call true 127 [(.t 5), (.t 6)]⟩, ⟨some 8, none, .bin .geq 0 (.t 7) (.k (.int .i64 0))⟩, ⟨some 4, none, .mv (.t 8)⟩])
 .ret))
set_option maxRecDepth 100000 in
theorem er107 : (Try.f107.body.bind (erC Try.prog cfg 9)) = some c107 := by kernel_rfl
theorem in107 {args : List AV} {σ : St} {Q : AV → St → Prop} (hlen : args.length ≤ 9) (h : σ.Wf → (∀ i, i < args.length → Hab (args.getD i .undef)) → SWP Try.prog σ.next c107 (retQ σ.next [.t 4] Q) (fun i => args.getD i .undef) σ) : TQ Try.prog 107 args σ Q := by
 obtain ⟨k, hb, hk⟩ := Option.bind_eq_some_iff.1 er107
 exact TQ_of (fn := Try.f107) Try.func107 (by kernel_rfl) hb (erC_is mixed hk) (by kernel_rfl) hlen h

/-! parquetry/ring.each$1 -/
def c108 : C :=
 (.seq (.reg [⟨some 3, none, .mv (.k (.int .i64 0))⟩])
 (.seq (.reg [⟨some 4, none, .ld none (.t 1)⟩, ⟨some 3, none, .mv (.t 4)⟩])
 .ret))
set_option maxRecDepth 100000 in
theorem er108 : (Try.f108.body.bind (erC Try.prog cfg 5)) = some c108 := by kernel_rfl
theorem in108 {args : List AV} {σ : St} {Q : AV → St → Prop} (hlen : args.length ≤ 5) (h : σ.Wf → (∀ i, i < args.length → Hab (args.getD i .undef)) → SWP Try.prog σ.next c108 (retQ σ.next [.t 3] Q) (fun i => args.getD i .undef) σ) : TQ Try.prog 108 args σ Q := by
 obtain ⟨k, hb, hk⟩ := Option.bind_eq_some_iff.1 er108
 exact TQ_of (fn := Try.f108) Try.func108 (by kernel_rfl) hb (erC_is mixed hk) (by kernel_rfl) hlen h

/-! parquetry/ring.put -/
def c109 : C :=
 (.seq (.reg [⟨some 5, none, .bx (.t 2)⟩])
 (.reg [⟨some 6, none, .mv (.t 0)⟩, ⟨some 7, none, .mv (.t 1)⟩, ⟨some 8, none, .ld (some 13) (.t 5)⟩, ⟨some 9, none, .call false 24 [(.t 6), (.t 7), (.t 8)]⟩]))
set_option maxRecDepth 100000 in
theorem er109 : (Try.f109.body.bind (erC Try.prog cfg 10)) = some c109 := by kernel_rfl
theorem in109 {args : List AV} {σ : St} {Q : AV → St → Prop} (hlen : args.length ≤ 10) (h : σ.Wf → (∀ i, i < args.length → Hab (args.getD i .undef)) → SWP Try.prog σ.next c109 (retQ σ.next [] Q) (fun i => args.getD i .undef) σ) : TQ Try.prog 109 args σ Q := by
 obtain ⟨k, hb, hk⟩ := Option.bind_eq_some_iff.1 er109
 exact TQ_of (fn := Try.f109) Try.func109 (by kernel_rfl) hb (erC_is mixed hk) (by kernel_rfl) hlen h

/-! slices.rotateRight[int] -/
/-! (*parquetry/parquetryref20.Machine).step -/
def c112 : C :=
 (.seq (.reg [⟨some 4, none, .mv (.k (.bool false))⟩, ⟨some 5, none, .mv (.k (.int .i64 0))⟩])
 (.seq (.dr [[], [0], [1, 0], [2, 1, 0], [], [3, 4, 2, 1, 0], [5, 3, 4, 2, 1, 0], [], [7], [8, 7], [9, 8, 7], [], [10, 11, 9, 8, 7], [12, 10, 11, 9, 8, 7], [6, 13, 5, 3, 4, 2, 1, 0, 12, 10, 11, 9, 8, 7], [14, 6, 13, 5, 3, 4, 2, 1, 0, 12, 10, 11, 9, 8, 7], [], [16, 15, 0, 1, 2, 3, 4, 5, 6, 7, 8, 9, 10, 11, 12, 13, 14]] [⟨some 14, none, .mv (.t 0)⟩, ⟨some 15, none, .nc (.t 14)⟩, ⟨some 16, none, .fa 0 (.t 15)⟩, ⟨some 17, none, .ld none (.t 16)⟩, ⟨some 18, none, .mv (.t 1)⟩, ⟨some 19, none, .ia 1 (.t 17) (.t 18)⟩, ⟨some 20, none, .ld none (.t 19)⟩, ⟨some 21, none, .mv (.t 0)⟩, ⟨some 22, none, .nc (.t 21)⟩, ⟨some 23, none, .fa 3 (.t 22)⟩, ⟨some 24, none, .ld none (.t 23)⟩, ⟨some 25, none, .mv (.t 1)⟩, ⟨some 26, none, .ia 1 (.t 24) (.t 25)⟩, ⟨some 27, none, .ld none (.t 26)⟩, ⟨some 28, none, .ia 13 (.t 20) (.t 27)⟩, ⟨some 29, none, .ld (some 13) (.t 28)⟩, ⟨some 6, none, .al [.int .i64 0, .int .i64 0, .lit 1 [], .int .i64 0, .lit 1 [], .lit 1 [], .lit 1 [], .int .i64 0, .int .i64 0, .str ⟨#[]⟩, .int .i64 0, .int .i64 0, .int .i64 0]⟩, ⟨none, none, .st 13 (.t 6) (.t 29)⟩])
 (.seq (.reg [⟨some 7, none, .al [.lit 1 [], .lit 1 []]⟩])
 (.seq (.seq (.reg [⟨some 30, none, .fa 0 (.t 6)⟩, ⟨some 31, none, .ld none (.t 30)⟩])
 (.block 0
  (.seq (.reg [⟨some 69, none, .bin .eql 0 (.t 31) (.k (.int .i64 1))⟩, ⟨some 68, none, .mv (.t 69)⟩])
  (.cond (.t 68)
   (.seq (.seq (.drs [⟨some 70, none, .fa 10 (.t 6)⟩, ⟨some 71, none, .ld none (.t 70)⟩, ⟨some 72, none, .mv (.t 0)⟩, ⟨some 73, none, .nc (.t 72)⟩, ⟨some 74, none, .fa 1 (.t 73)⟩, ⟨some 75, none, .ld none (.t 74)⟩, ⟨some 76, none, .mv (.t 1)⟩, ⟨some 77, none, .ia 1 (.t 75) (.t 76)⟩, ⟨some 78, none, .ld none (.t 77)⟩, ⟨some 79, none, .ln false (.t 78)⟩, ⟨some 80, none, .bin .geq 0 (.t 71) (.t 79)⟩])
   (.cond (.t 80)
    (.seq (.reg [⟨some 4, none, .mv (.k (.bool false))⟩, ⟨some 5, none, .mv (.k (.int .i64 22))⟩])
    .ret)
    .skip))
   (.drs [⟨some 81, none, .mv (.t 0)⟩, ⟨some 82, none, .nc (.t 81)⟩, ⟨some 83, none, .fa 1 (.t 82)⟩, ⟨some 84, none, .ld none (.t 83)⟩, ⟨some 85, none, .mv (.t 1)⟩, ⟨some 86, none, .ia 1 (.t 84) (.t 85)⟩, ⟨some 87, none, .ld none (.t 86)⟩, ⟨some 88, none, .fa 10 (.t 6)⟩, ⟨some 89, none, .ld none (.t 88)⟩, ⟨some 90, none, .ia 2 (.t 87) (.t 89)⟩, ⟨some 91, none, .ld (some 2) (.t 90)⟩, ⟨none, none, .st 2 (.t 7) (.t 91)⟩]))
   (.seq (.reg [⟨some 93, none, .bin .eql 0 (.t 31) (.k (.int .i64 2))⟩, ⟨some 92, none, .mv (.t 93)⟩])
   (.cond (.t 92)
    (.seq (.reg [⟨some 8, none, .mv (.k (.nils))⟩])
    (.seq (.seq (.reg [⟨some 94, none, .fa 2 (.t 6)⟩, ⟨some 95, none, .ld none (.t 94)⟩, ⟨some 96, none, .ln false (.t 95)⟩, ⟨some 97, none, .mv (.k (.int .i64 0))⟩])
    (.block 1
     (.loop
      (.seq (.reg [⟨some 98, none, .bin .lss 0 (.t 97) (.t 96)⟩])
      (.seq (.cond (.t 98)
       .skip
       (.exit 1))
      (.seq (.block 2
       (.seq (.reg [⟨some 99, none, .ia 1 (.t 95) (.t 97)⟩, ⟨some 100, none, .ld none (.t 99)⟩, ⟨some 10, none, .mv (.t 100)⟩])
       (.reg [⟨some 101, none, .mv (.t 8)⟩, ⟨some 102, none, .mv (.t 0)⟩, ⟨some 103, none, .nc (.t 102)⟩, ⟨some 104, none, .fa 2 (.t 103)⟩, ⟨some 105, none, .ld none (.t 104)⟩, ⟨some 106, none, .mv (.t 1)⟩, ⟨some 107, none, .ia 1 (.t 105) (.t 106)⟩, ⟨some 108, none, .ld none (.t 107)⟩, ⟨some 109, none, .mv (.t 10)⟩, ⟨some 110, none, .lk false none (.agg [.lit 1 [], .lit 1 []]) (.t 108) (.t 109)⟩, ⟨some 111, none, .bs false 2 [.lit 1 [], .lit 1 []] 1 [(0, (.t 110))]⟩, ⟨some 112, none, .ap 2 48 (.t 101) (.t 111)⟩, ⟨some 8, none, .mv (.t 112)⟩])))
      (.reg [⟨some 113, none, .bin .add 0 (.t 97) (.k (.int .i64 1))⟩, ⟨some 97, none, .mv (.t 113)⟩])))))))
    (.seq (.reg [⟨some 115, none, .fa 3 (.t 6)⟩, ⟨some 116, none, .ld (some 7) (.t 115)⟩, ⟨some 117, none, .mv (.t 8)⟩, ⟨some 118, none, .call true 129 [(.t 116), (.t 117)]⟩, ⟨some 114, none, .mv (.t 118)⟩, ⟨some 119, none, .ex (.t 114) 0⟩, ⟨some 120, none, .ex (.t 114) 1⟩, ⟨some 11, none, .al [.lit 1 [], .lit 1 []]⟩, ⟨none, none, .st 2 (.t 11) (.t 119)⟩, ⟨some 12, none, .mv (.t 120)⟩])
    (.seq (.seq (.reg [⟨some 121, none, .mv (.t 12)⟩, ⟨some 122, none, .bin .neq 0 (.t 121) (.k (.int .i64 0))⟩])
    (.cond (.t 122)
     (.seq (.reg [⟨some 123, none, .mv (.t 12)⟩, ⟨some 4, none, .mv (.k (.bool false))⟩, ⟨some 5, none, .mv (.t 123)⟩])
     .ret)
     .skip))
    (.reg [⟨some 124, none, .ld (some 2) (.t 11)⟩, ⟨none, none, .st 2 (.t 7) (.t 124)⟩])))))
    (.seq (.reg [⟨some 126, none, .bin .eql 0 (.t 31) (.k (.int .i64 3))⟩, ⟨some 125, none, .mv (.t 126)⟩])
    (.cond (.t 125)
     (.seq (.seq (.reg [⟨some 127, none, .mv (.t 0)⟩, ⟨some 128, none, .mv (.t 1)⟩, ⟨some 129, none, .fa 11 (.t 6)⟩, ⟨some 130, none, .ld none (.t 129)⟩, ⟨some 131, none, .fa 12 (.t 6)⟩, ⟨some 132, none, .ld none (.t 131)⟩, ⟨some 133, none, .call true 130 [(.t 127), (.t 128), (.t 130), (.t 132)]⟩, ⟨some 134, none, .bin .geq 0 (.t 133) (.k (.int .i64 0))⟩])
     (.cond (.t 134)
      (.seq (.reg [⟨some 4, none, .mv (.k (.bool false))⟩, ⟨some 5, none, .mv (.k (.int .i64 25))⟩])
      .ret)
      .skip))
     (.seq (.dr [[], [], [], [2], [3, 2], [4, 3, 2], [1, 5, 4, 3, 2], [], [], [8], [], [10], [], [12], [13, 12], [14, 13, 12], [], [15, 16, 14, 13, 12], [17, 15, 16, 14, 13, 12], [], [19], [20, 19], [21, 20, 19], [18, 22, 17, 15, 16, 14, 13, 12, 21, 20, 19], [7, 9, 11, 23, 8, 10, 18, 22, 17, 15, 16, 14, 13, 12, 21, 20, 19], [24, 7, 9, 11, 23, 8, 10, 18, 22, 17, 15, 16, 14, 13, 12, 21, 20, 19], [6, 25, 1, 5, 4, 3, 2, 24, 7, 9, 11, 23, 8, 10, 18, 22, 17, 15, 16, 14, 13, 12, 21, 20, 19], [0, 1, 2, 3, 4, 5, 6, 7, 8, 9, 10, 11, 12, 13, 14, 15, 16, 17, 18, 19, 20, 21, 22, 23, 24, 25, 26], [27, 0, 1, 2, 3, 4, 5, 6, 7, 8, 9, 10, 11, 12, 13, 14, 15, 16, 17, 18, 19, 20, 21, 22, 23, 24, 25, 26], [28, 26, 0, 1, 2, 3, 4, 5, 6, 7, 8, 9, 10, 11, 12, 13, 14, 15, 16, 17, 18, 19, 20, 21, 22, 23, 24, 25, 27]] [⟨some 135, none, .mv (.t 0)⟩, ⟨some 136, none, .bs false 5 [.int .i64 0, .int .i64 0, .int .i64 0, .lit 1 [], .lit 1 []] 0 []⟩, ⟨some 137, none, .mv (.t 0)⟩, ⟨some 138, none, .nc (.t 137)⟩, ⟨some 139, none, .fa 4 (.t 138)⟩, ⟨some 140, none, .ld none (.t 139)⟩, ⟨some 141, none, .ap 5 72 (.t 136) (.t 140)⟩, ⟨some 142, none, .mv (.t 1)⟩, ⟨some 143, none, .fa 11 (.t 6)⟩, ⟨some 144, none, .ld none (.t 143)⟩, ⟨some 145, none, .fa 12 (.t 6)⟩, ⟨some 146, none, .ld none (.t 145)⟩, ⟨some 147, none, .mv (.t 0)⟩, ⟨some 148, none, .nc (.t 147)⟩, ⟨some 149, none, .fa 2 (.t 148)⟩, ⟨some 150, none, .ld none (.t 149)⟩, ⟨some 151, none, .mv (.t 1)⟩, ⟨some 152, none, .ia 1 (.t 150) (.t 151)⟩, ⟨some 153, none, .ld none (.t 152)⟩, ⟨some 154, none, .fa 2 (.t 6)⟩, ⟨some 155, none, .ld none (.t 154)⟩, ⟨some 156, none, .ia 1 (.t 155) (.k (.int .i64 0))⟩, ⟨some 157, none, .ld none (.t 156)⟩, ⟨some 158, none, .lk false none (.agg [.lit 1 [], .lit 1 []]) (.t 153) (.t 157)⟩, ⟨some 159, none, .bd [.int .i64 0, .int .i64 0, .int .i64 0, .lit 1 [], .lit 1 []] [(0, 1, (.t 142)), (1, 1, (.t 144)), (2, 1, (.t 146)), (3, 2, (.t 158))]⟩, ⟨some 160, none, .bs false 5 [.int .i64 0, .int .i64 0, .int .i64 0, .lit 1 [], .lit 1 []] 1 [(0, (.t 159))]⟩, ⟨some 161, none, .ap 5 72 (.t 141) (.t 160)⟩, ⟨some 162, none, .nc (.t 135)⟩, ⟨some 163, none, .fa 4 (.t 162)⟩, ⟨none, none, .st 1 (.t 163) (.t 161)⟩])
     (.reg [⟨some 164, none, .mv (.t 0)⟩, ⟨some 165, none, .nc (.t 164)⟩, ⟨some 166, none, .fa 5 (.t 165)⟩, ⟨some 167, none, .ld none (.t 166)⟩, ⟨some 168, none, .bin .add 0 (.t 167) (.k (.int .i64 1))⟩, ⟨some 169, none, .nc (.t 164)⟩, ⟨some 170, none, .fa 5 (.t 169)⟩, ⟨none, none, .st 1 (.t 170) (.t 168)⟩])))
     (.seq (.reg [⟨some 32, none, .mv (.t 0)⟩, ⟨some 33, none, .fa 11 (.t 6)⟩, ⟨some 34, none, .ld none (.t 33)⟩, ⟨some 35, none, .mv (.t 1)⟩, ⟨some 36, none, .fa 12 (.t 6)⟩, ⟨some 37, none, .ld none (.t 36)⟩, ⟨some 38, none, .call true 130 [(.t 32), (.t 34), (.t 35), (.t 37)]⟩, ⟨some 13, none, .mv (.t 38)⟩])
     (.seq (.seq (.reg [⟨some 39, none, .mv (.t 13)⟩, ⟨some 40, none, .bin .lss 0 (.t 39) (.k (.int .i64 0))⟩])
     (.cond (.t 40)
      (.seq (.reg [⟨some 4, none, .mv (.k (.bool false))⟩, ⟨some 5, none, .mv (.k (.int .i64 0))⟩])
      .ret)
      .skip))
     (.seq (.reg [⟨some 41, none, .mv (.t 0)⟩, ⟨some 42, none, .nc (.t 41)⟩, ⟨some 43, none, .fa 4 (.t 42)⟩, ⟨some 44, none, .ld none (.t 43)⟩, ⟨some 45, none, .mv (.t 13)⟩, ⟨some 46, none, .ia 5 (.t 44) (.t 45)⟩, ⟨some 47, none, .fa 3 (.t 46)⟩, ⟨some 48, none, .ld (some 2) (.t 47)⟩, ⟨none, none, .st 2 (.t 7) (.t 48)⟩])
     (.dr [[], [], [], [2], [3, 2], [4, 3, 2], [], [5, 6, 4, 3, 2], [1, 7, 5, 6, 4, 3, 2], [], [9], [10, 9], [11, 10, 9], [], [13], [12, 14, 11, 10, 9, 13], [8, 15, 1, 7, 5, 6, 4, 3, 2, 12, 14, 11, 10, 9, 13], [0, 1, 2, 3, 4, 5, 6, 7, 8, 9, 10, 11, 12, 13, 14, 15, 16], [17, 0, 1, 2, 3, 4, 5, 6, 7, 8, 9, 10, 11, 12, 13, 14, 15, 16], [18, 16, 0, 1, 2, 3, 4, 5, 6, 7, 8, 9, 10, 11, 12, 13, 14, 15, 17]] [⟨some 49, none, .mv (.t 0)⟩, ⟨some 50, none, .bs false 5 [.int .i64 0, .int .i64 0, .int .i64 0, .lit 1 [], .lit 1 []] 0 []⟩, ⟨some 51, none, .mv (.t 0)⟩, ⟨some 52, none, .nc (.t 51)⟩, ⟨some 53, none, .fa 4 (.t 52)⟩, ⟨some 54, none, .ld none (.t 53)⟩, ⟨some 55, none, .mv (.t 13)⟩, ⟨some 56, none, .sc 5 (.t 54) none (some (.t 55)) none⟩, ⟨some 57, none, .ap 5 72 (.t 50) (.t 56)⟩, ⟨some 58, none, .mv (.t 0)⟩, ⟨some 59, none, .nc (.t 58)⟩, ⟨some 60, none, .fa 4 (.t 59)⟩, ⟨some 61, none, .ld none (.t 60)⟩, ⟨some 62, none, .mv (.t 13)⟩, ⟨some 63, none, .bin .add 0 (.t 62) (.k (.int .i64 1))⟩, ⟨some 64, none, .sc 5 (.t 61) (some (.t 63)) none none⟩, ⟨some 65, none, .ap 5 72 (.t 57) (.t 64)⟩, ⟨some 66, none, .nc (.t 49)⟩, ⟨some 67, none, .fa 4 (.t 66)⟩, ⟨none, none, .st 1 (.t 67) (.t 65)⟩]))))))))))))
 (.seq (.seq (.reg [⟨some 171, none, .fa 0 (.t 6)⟩, ⟨some 172, none, .ld none (.t 171)⟩, ⟨some 173, none, .bin .neq 0 (.t 172) (.k (.int .i64 3))⟩])
 (.cond (.t 173)
  (.drs [⟨some 174, none, .mv (.t 0)⟩, ⟨some 175, none, .nc (.t 174)⟩, ⟨some 176, none, .fa 2 (.t 175)⟩, ⟨some 177, none, .ld none (.t 176)⟩, ⟨some 178, none, .mv (.t 1)⟩, ⟨some 179, none, .ia 1 (.t 177) (.t 178)⟩, ⟨some 180, none, .ld none (.t 179)⟩, ⟨some 181, none, .fa 1 (.t 6)⟩, ⟨some 182, none, .ld none (.t 181)⟩, ⟨some 183, none, .ld (some 2) (.t 7)⟩, ⟨none, none, .mu none (.t 180) (.t 182) (.t 183)⟩])
  .skip))
 (.seq (.reg [⟨some 184, none, .mv (.t 0)⟩, ⟨some 185, none, .nc (.t 184)⟩, ⟨some 186, none, .fa 3 (.t 185)⟩, ⟨some 187, none, .ld none (.t 186)⟩, ⟨some 188, none, .mv (.t 1)⟩, ⟨some 189, none, .ia 1 (.t 187) (.t 188)⟩, ⟨some 190, none, .ld none (.t 189)⟩, ⟨some 191, none, .bin .add 0 (.t 190) (.k (.int .i64 1))⟩, ⟨some 192, none, .ia 1 (.t 187) (.t 188)⟩, ⟨none, none, .st 1 (.t 192) (.t 191)⟩])
 (.seq (.reg [⟨some 4, none, .mv (.k (.bool true))⟩, ⟨some 5, none, .mv (.k (.int .i64 0))⟩])
 .ret)))))))
set_option maxRecDepth 100000 in
theorem er112 : (Try.f112.body.bind (erC Try.prog cfg 193)) = some c112 := by kernel_rfl
theorem in112 {args : List AV} {σ : St} {Q : AV → St → Prop} (hlen : args.length ≤ 193) (h : σ.Wf → (∀ i, i < args.length → Hab (args.getD i .undef)) → SWP Try.prog σ.next c112 (retQ σ.next [.t 4, .t 5] Q) (fun i => args.getD i .undef) σ) : TQ Try.prog 112 args σ Q := by
 obtain ⟨k, hb, hk⟩ := Option.bind_eq_some_iff.1 er112
 exact TQ_of (fn := Try.f112) Try.func112 (by kernel_rfl) hb (erC_is mixed hk) (by kernel_rfl) hlen h

/-! (*parquetry/parquetryref20.Machine).Halted -/
def c113 : C :=
 (.seq (.reg [⟨some 2, none, .mv (.k (.bool false))⟩])
 (.seq (.seq (.reg [⟨some 4, none, .mv (.t 0)⟩, ⟨some 5, none, .nc (.t 4)⟩, ⟨some 6, none, .fa 0 (.t 5)⟩, ⟨some 7, none, .ld none (.t 6)⟩, ⟨some 8, none, .ln false (.t 7)⟩, ⟨some 9, none, .mv (.k (.int .i64 0))⟩])
 (.block 0
  (.loop
   (.seq (.reg [⟨some 10, none, .bin .lss 0 (.t 9) (.t 8)⟩])
   (.seq (.cond (.t 10)
    .skip
    (.exit 0))
   (.seq (.block 1
    (.seq (.reg [⟨some 11, none, .mv (.t 9)⟩, ⟨some 3, none, .mv (.t 11)⟩])
    (.seq (.drs [⟨some 12, none, .mv (.t 0)⟩, ⟨some 13, none, .nc (.t 12)⟩, ⟨some 14, none, .fa 3 (.t 13)⟩, ⟨some 15, none, .ld none (.t 14)⟩, ⟨some 16, none, .mv (.t 3)⟩, ⟨some 17, none, .ia 1 (.t 15) (.t 16)⟩, ⟨some 18, none, .ld none (.t 17)⟩, ⟨some 19, none, .mv (.t 0)⟩, ⟨some 20, none, .nc (.t 19)⟩, ⟨some 21, none, .fa 0 (.t 20)⟩, ⟨some 22, none, .ld none (.t 21)⟩, ⟨some 23, none, .mv (.t 3)⟩, ⟨some 24, none, .ia 1 (.t 22) (.t 23)⟩, ⟨some 25, none, .ld none (.t 24)⟩, ⟨some 26, none, .ln false (.t 25)⟩, ⟨some 27, none, .bin .lss 0 (.t 18) (.t 26)⟩])
    (.cond (.t 27)
     (.seq (.reg [⟨some 2, none, .mv (.k (.bool false))⟩])
     .ret)
     .skip))))
   (.reg [⟨some 28, none, .bin .add 0 (.t 9) (.k (.int .i64 1))⟩, ⟨some 9, none, .mv (.t 28)⟩])))))))
 (.seq (.reg [⟨some 2, none, .mv (.k (.bool true))⟩])
 .ret)))
set_option maxRecDepth 100000 in
theorem er113 : (Try.f113.body.bind (erC Try.prog cfg 29)) = some c113 := by kernel_rfl
theorem in113 {args : List AV} {σ : St} {Q : AV → St → Prop} (hlen : args.length ≤ 29) (h : σ.Wf → (∀ i, i < args.length → Hab (args.getD i .undef)) → SWP Try.prog σ.next c113 (retQ σ.next [.t 2] Q) (fun i => args.getD i .undef) σ) : TQ Try.prog 113 args σ Q := by
 obtain ⟨k, hb, hk⟩ := Option.bind_eq_some_iff.1 er113
 exact TQ_of (fn := Try.f113) Try.func113 (by kernel_rfl) hb (erC_is mixed hk) (by kernel_rfl) hlen h

/-! slices.Index[[]int,int] -/
def c127 : C :=
 (.seq (.reg [⟨some 4, none, .mv (.k (.int .i64 0))⟩])
 (.seq (.seq (.reg [⟨some 6, none, .mv (.t 0)⟩, ⟨some 7, none, .ln false (.t 6)⟩, ⟨some 8, none, .mv (.k (.int .i64 0))⟩])
 (.block 0
  (.loop
   (.seq (.reg [⟨some 9, none, .bin .lss 0 (.t 8) (.t 7)⟩])
   (.seq (.cond (.t 9)
    .skip
    (.exit 0))
   (.seq (.block 1
    (.seq (.reg [⟨some 10, none, .mv (.t 8)⟩, ⟨some 5, none, .mv (.t 10)⟩])
    (.seq (.reg [⟨some 11, none, .mv (.t 1)⟩, ⟨some 12, none, .mv (.t 0)⟩, ⟨some 13, none, .mv (.t 5)⟩, ⟨some 14, none, .ia 1 (.t 12) (.t 13)⟩, ⟨some 15, none, .ld none (.t 14)⟩, ⟨some 16, none, .bin .eql 0 (.t 11) (.t 15)⟩])
    (.cond (.t 16)
     (.seq (.reg [⟨some 17, none, .mv (.t 5)⟩, ⟨some 4, none, .mv (.t 17)⟩])
     .ret)
     .skip))))
   (.reg [⟨some 18, none, .bin .add 0 (.t 8) (.k (.int .i64 1))⟩, ⟨some 8, none, .mv (.t 18)⟩])))))))
 (.seq (.reg [⟨some 4, none, .mv (.k (.int .i64 (-1)))⟩])
 .ret)))
set_option maxRecDepth 100000 in
theorem er127 : (Try.f127.body.bind (erC Try.prog cfg 19)) = some c127 := by kernel_rfl
theorem in127 {args : List AV} {σ : St} {Q : AV → St → Prop} (hlen : args.length ≤ 19) (h : σ.Wf → (∀ i, i < args.length → Hab (args.getD i .undef)) → SWP Try.prog σ.next c127 (retQ σ.next [.t 4] Q) (fun i => args.getD i .undef) σ) : TQ Try.prog 127 args σ Q := by
 obtain ⟨k, hb, hk⟩ := Option.bind_eq_some_iff.1 er127
 exact TQ_of (fn := Try.f127) Try.func127 (by kernel_rfl) hb (erC_is mixed hk) (by kernel_rfl) hlen h

/-! slices.rotateLeft[int] -/
/-! parquetry/parquetryref10.Node -/
def c129 : C :=
 (.seq (.reg [⟨some 2, none, .bx (.t 0)⟩, ⟨some 4, none, .al [.lit 1 [], .lit 1 []]⟩, ⟨some 5, none, .mv (.k (.int .i64 0))⟩])
 (.seq (.reg [⟨some 6, none, .mv (.k (.nils))⟩])
 (.seq (.seq (.reg [⟨some 11, none, .mv (.t 1)⟩, ⟨some 12, none, .ln false (.t 11)⟩, ⟨some 13, none, .mv (.k (.int .i64 0))⟩])
 (.block 0
  (.loop
   (.seq (.reg [⟨some 14, none, .bin .lss 0 (.t 13) (.t 12)⟩])
   (.seq (.cond (.t 14)
    .skip
    (.exit 0))
   (.seq (.block 1
    (.seq (.reg [⟨some 15, none, .ia 2 (.t 11) (.t 13)⟩, ⟨some 16, none, .ld (some 2) (.t 15)⟩, ⟨some 8, none, .al [.lit 1 [], .lit 1 []]⟩, ⟨none, none, .st 2 (.t 8) (.t 16)⟩])
    (.seq (.seq (.reg [⟨some 17, none, .ld (some 2) (.t 8)⟩, ⟨some 18, none, .call true 92 [(.t 17)]⟩, ⟨some 19, none, .un .not (.t 18)⟩])
    (.cond (.t 19)
     (.seq (.reg [⟨some 20, none, .bd [.lit 1 [], .lit 1 []] []⟩, ⟨none, none, .st 2 (.t 4) (.t 20)⟩, ⟨some 5, none, .mv (.k (.int .i64 13))⟩])
     .ret)
     .skip))
    (.reg [⟨some 21, none, .mv (.t 6)⟩, ⟨some 22, none, .fa 0 (.t 8)⟩, ⟨some 23, none, .ld none (.t 22)⟩, ⟨some 24, none, .bs false 1 [.lit 1 []] 1 [(0, (.t 23))]⟩, ⟨some 25, none, .ap 1 24 (.t 21) (.t 24)⟩, ⟨some 6, none, .mv (.t 25)⟩]))))
   (.reg [⟨some 26, none, .bin .add 0 (.t 13) (.k (.int .i64 1))⟩, ⟨some 13, none, .mv (.t 26)⟩])))))))
 (.seq (.seq (.reg [⟨some 28, none, .ld (some 7) (.t 2)⟩, ⟨some 29, none, .mv (.t 6)⟩, ⟨some 30, none, .call true 142 [(.t 28), (.t 29)]⟩, ⟨some 27, none, .mv (.t 30)⟩, ⟨some 31, none, .ex (.t 27) 0⟩, ⟨some 32, none, .ex (.t 27) 1⟩, ⟨some 9, none, .mv (.t 31)⟩, ⟨some 10, none, .mv (.t 32)⟩])
 (.seq (.reg [⟨some 33, none, .mv (.t 10)⟩, ⟨some 34, none, .bin .neq 0 (.t 33) (.k (.int .i64 0))⟩])
 (.cond (.t 34)
  (.seq (.reg [⟨some 35, none, .bd [.lit 1 [], .lit 1 []] []⟩, ⟨some 36, none, .mv (.t 10)⟩, ⟨none, none, .st 2 (.t 4) (.t 35)⟩, ⟨some 5, none, .mv (.t 36)⟩])
  .ret)
  .skip)))
 (.seq (.seq (.reg [⟨some 37, none, .fa 0 (.t 2)⟩, ⟨some 38, none, .ld none (.t 37)⟩, ⟨some 39, none, .bin .eql 0 (.t 38) (.k (.int .i64 1))⟩])
 (.cond (.t 39)
  (.seq (.reg [⟨some 40, none, .bd [.lit 1 [], .lit 1 []] []⟩, ⟨none, none, .st 2 (.t 4) (.t 40)⟩, ⟨some 5, none, .mv (.k (.int .i64 22))⟩])
  .ret)
  .skip))
 (.seq (.reg [⟨some 41, none, .ld (some 7) (.t 2)⟩, ⟨some 42, none, .mv (.t 1)⟩, ⟨some 43, none, .call true 143 [(.t 41), (.t 42)]⟩, ⟨some 44, none, .ex (.t 43) 0⟩, ⟨some 45, none, .ex (.t 43) 1⟩, ⟨none, none, .st 2 (.t 4) (.t 44)⟩, ⟨some 5, none, .mv (.t 45)⟩])
 .ret))))))
set_option maxRecDepth 100000 in
theorem er129 : (Try.f129.body.bind (erC Try.prog cfg 46)) = some c129 := by kernel_rfl
theorem in129 {args : List AV} {σ : St} {Q : AV → St → Prop} (hlen : args.length ≤ 46) (h : σ.Wf → (∀ i, i < args.length → Hab (args.getD i .undef)) → SWP Try.prog σ.next c129 (retQ σ.next [.c (some 2) 4, .t 5] Q) (fun i => args.getD i .undef) σ) : TQ Try.prog 129 args σ Q := by
 obtain ⟨k, hb, hk⟩ := Option.bind_eq_some_iff.1 er129
 exact TQ_of (fn := Try.f129) Try.func129 (by kernel_rfl) hb (erC_is mixed hk) (by kernel_rfl) hlen h

/-! (*parquetry/parquetryref20.Machine).find -/
def c130 : C :=
 (.seq (.reg [⟨some 8, none, .mv (.k (.int .i64 0))⟩])
 (.seq (.seq (.reg [⟨some 11, none, .mv (.t 0)⟩, ⟨some 12, none, .nc (.t 11)⟩, ⟨some 13, none, .fa 4 (.t 12)⟩, ⟨some 14, none, .ld none (.t 13)⟩, ⟨some 15, none, .ln false (.t 14)⟩, ⟨some 16, none, .mv (.k (.int .i64 0))⟩])
 (.block 0
  (.loop
   (.seq (.reg [⟨some 17, none, .bin .lss 0 (.t 16) (.t 15)⟩])
   (.seq (.cond (.t 17)
    .skip
    (.exit 0))
   (.seq (.block 1
    (.seq (.reg [⟨some 18, none, .mv (.t 16)⟩, ⟨some 19, none, .ia 5 (.t 14) (.t 16)⟩, ⟨some 20, none, .ld (some 5) (.t 19)⟩, ⟨some 10, none, .al [.int .i64 0, .int .i64 0, .int .i64 0, .lit 1 [], .lit 1 []]⟩, ⟨some 9, none, .mv (.t 18)⟩, ⟨none, none, .st 5 (.t 10) (.t 20)⟩])
    (.seq (.reg [⟨some 21, none, .fa 0 (.t 10)⟩, ⟨some 22, none, .ld none (.t 21)⟩, ⟨some 23, none, .mv (.t 1)⟩, ⟨some 24, none, .bin .eql 0 (.t 22) (.t 23)⟩, ⟨some 25, none, .mv (.t 24)⟩, ⟨some 26, (some (25, true)), .fa 1 (.t 10)⟩, ⟨some 27, (some (25, true)), .ld none (.t 26)⟩, ⟨some 28, (some (25, true)), .mv (.t 2)⟩, ⟨some 29, (some (25, true)), .bin .eql 0 (.t 27) (.t 28)⟩, ⟨some 30, none, .pk (.t 25) (.t 29) (.k (.bool false))⟩, ⟨some 31, none, .mv (.t 30)⟩, ⟨some 32, (some (31, true)), .fa 2 (.t 10)⟩, ⟨some 33, (some (31, true)), .ld none (.t 32)⟩, ⟨some 34, (some (31, true)), .mv (.t 3)⟩, ⟨some 35, (some (31, true)), .bin .eql 0 (.t 33) (.t 34)⟩, ⟨some 36, none, .pk (.t 31) (.t 35) (.k (.bool false))⟩])
    (.cond (.t 36)
     (.seq (.reg [⟨some 37, none, .mv (.t 9)⟩, ⟨some 8, none, .mv (.t 37)⟩])
     .ret)
     .skip))))
   (.reg [⟨some 38, none, .bin .add 0 (.t 16) (.k (.int .i64 1))⟩, ⟨some 16, none, .mv (.t 38)⟩])))))))
 (.seq (.reg [⟨some 8, none, .mv (.k (.int .i64 (-1)))⟩])
 .ret)))
set_option maxRecDepth 100000 in
theorem er130 : (Try.f130.body.bind (erC Try.prog cfg 39)) = some c130 := by kernel_rfl
theorem in130 {args : List AV} {σ : St} {Q : AV → St → Prop} (hlen : args.length ≤ 39) (h : σ.Wf → (∀ i, i < args.length → Hab (args.getD i .undef)) → SWP Try.prog σ.next c130 (retQ σ.next [.t 8] Q) (fun i => args.getD i .undef) σ) : TQ Try.prog 130 args σ Q := by
 obtain ⟨k, hb, hk⟩ := Option.bind_eq_some_iff.1 er130
 exact TQ_of (fn := Try.f130) Try.func130 (by kernel_rfl) hb (erC_is mixed hk) (by kernel_rfl) hlen h

/-! slices.IndexFunc[[]int,int] -/
/-! slices.Reverse[[]int,int] -/
/-! parquetry/parquetryref10.Shape -/
def c142 : C :=
 (.seq (.reg [⟨some 2, none, .bx (.t 0)⟩, ⟨some 4, none, .mv (.k (.nils))⟩, ⟨some 5, none, .mv (.k (.int .i64 0))⟩])
 (.seq (.seq (.reg [⟨some 10, none, .ld (some 7) (.t 2)⟩, ⟨some 11, none, .mv (.t 1)⟩, ⟨some 12, none, .ln false (.t 11)⟩, ⟨some 13, none, .call true 151 [(.t 10), (.t 12)]⟩, ⟨some 14, none, .un .not (.t 13)⟩])
 (.cond (.t 14)
  (.seq (.reg [⟨some 4, none, .mv (.k (.nils))⟩, ⟨some 5, none, .mv (.k (.int .i64 1))⟩])
  .ret)
  .skip))
 (.seq (.reg [⟨some 6, none, .mv (.k (.nils))⟩])
 (.seq (.seq (.reg [⟨some 15, none, .mv (.t 1)⟩, ⟨some 16, none, .ln false (.t 15)⟩, ⟨some 17, none, .mv (.k (.int .i64 0))⟩])
 (.block 0
  (.loop
   (.seq (.reg [⟨some 18, none, .bin .lss 0 (.t 17) (.t 16)⟩])
   (.seq (.cond (.t 18)
    .skip
    (.exit 0))
   (.seq (.block 1
    (.seq (.reg [⟨some 19, none, .mv (.t 17)⟩, ⟨some 7, none, .mv (.t 19)⟩])
    (.seq (.seq (.reg [⟨some 20, none, .mv (.t 1)⟩, ⟨some 21, none, .mv (.t 7)⟩, ⟨some 22, none, .ia 1 (.t 20) (.t 21)⟩, ⟨some 23, none, .ld none (.t 22)⟩, ⟨some 24, none, .call true 93 [(.t 23)]⟩, ⟨some 25, none, .un .not (.t 24)⟩])
    (.cond (.t 25)
     (.seq (.reg [⟨some 4, none, .mv (.k (.nils))⟩, ⟨some 5, none, .mv (.k (.int .i64 13))⟩])
     .ret)
     .skip))
    (.reg [⟨some 26, none, .mv (.t 6)⟩, ⟨some 27, none, .mv (.t 1)⟩, ⟨some 28, none, .mv (.t 7)⟩, ⟨some 29, none, .ia 1 (.t 27) (.t 28)⟩, ⟨some 30, none, .ld none (.t 29)⟩, ⟨some 31, none, .call false 48 [(.t 30), (.k (.int .i64 0))]⟩, ⟨some 32, none, .bs false 2 [.lit 1 [], .lit 1 []] 1 [(0, (.t 31))]⟩, ⟨some 33, none, .ap 2 48 (.t 26) (.t 32)⟩, ⟨some 6, none, .mv (.t 33)⟩]))))
   (.reg [⟨some 34, none, .bin .add 0 (.t 17) (.k (.int .i64 1))⟩, ⟨some 17, none, .mv (.t 34)⟩])))))))
 (.seq (.seq (.reg [⟨some 35, none, .fa 0 (.t 2)⟩, ⟨some 36, none, .ld none (.t 35)⟩, ⟨some 37, none, .bin .eql 0 (.t 36) (.k (.int .i64 1))⟩])
 (.cond (.t 37)
  (.seq (.seq (.reg [⟨some 38, none, .fa 2 (.t 2)⟩, ⟨some 39, none, .ld none (.t 38)⟩, ⟨some 40, none, .call true 93 [(.t 39)]⟩, ⟨some 41, none, .un .not (.t 40)⟩])
  (.cond (.t 41)
   (.seq (.reg [⟨some 4, none, .mv (.k (.nils))⟩, ⟨some 5, none, .mv (.k (.int .i64 13))⟩])
   .ret)
   .skip))
  (.seq (.reg [⟨some 42, none, .bs false 1 [.int .i64 0] 0 []⟩, ⟨some 43, none, .fa 2 (.t 2)⟩, ⟨some 44, none, .ld none (.t 43)⟩, ⟨some 45, none, .ap 1 8 (.t 42) (.t 44)⟩, ⟨some 4, none, .mv (.t 45)⟩, ⟨some 5, none, .mv (.k (.int .i64 0))⟩])
  .ret))
  .skip))
 (.seq (.reg [⟨some 47, none, .ld (some 7) (.t 2)⟩, ⟨some 48, none, .mv (.t 6)⟩, ⟨some 49, none, .call true 143 [(.t 47), (.t 48)]⟩, ⟨some 46, none, .mv (.t 49)⟩, ⟨some 50, none, .ex (.t 46) 0⟩, ⟨some 51, none, .ex (.t 46) 1⟩, ⟨some 8, none, .al [.lit 1 [], .lit 1 []]⟩, ⟨none, none, .st 2 (.t 8) (.t 50)⟩, ⟨some 9, none, .mv (.t 51)⟩])
 (.seq (.seq (.reg [⟨some 52, none, .mv (.t 9)⟩, ⟨some 53, none, .bin .neq 0 (.t 52) (.k (.int .i64 0))⟩])
 (.cond (.t 53)
  (.seq (.reg [⟨some 54, none, .mv (.t 9)⟩, ⟨some 4, none, .mv (.k (.nils))⟩, ⟨some 5, none, .mv (.t 54)⟩])
  .ret)
  .skip))
 (.seq (.reg [⟨some 55, none, .fa 0 (.t 8)⟩, ⟨some 56, none, .ld none (.t 55)⟩, ⟨some 4, none, .mv (.t 56)⟩, ⟨some 5, none, .mv (.k (.int .i64 0))⟩])
 .ret))))))))
set_option maxRecDepth 100000 in
theorem er142 : (Try.f142.body.bind (erC Try.prog cfg 57)) = some c142 := by kernel_rfl
theorem in142 {args : List AV} {σ : St} {Q : AV → St → Prop} (hlen : args.length ≤ 57) (h : σ.Wf → (∀ i, i < args.length → Hab (args.getD i .undef)) → SWP Try.prog σ.next c142 (retQ σ.next [.t 4, .t 5] Q) (fun i => args.getD i .undef) σ) : TQ Try.prog 142 args σ Q := by
 obtain ⟨k, hb, hk⟩ := Option.bind_eq_some_iff.1 er142
 exact TQ_of (fn := Try.f142) Try.func142 (by kernel_rfl) hb (erC_is mixed hk) (by kernel_rfl) hlen h

/-! parquetry/parquetryref10.work -/
def c143 : C :=
 (.seq (.reg [⟨some 2, none, .bx (.t 0)⟩, ⟨some 4, none, .al [.lit 1 [], .lit 1 []]⟩, ⟨some 5, none, .mv (.k (.int .i64 0))⟩])
 (.seq (.seq (.reg [⟨some 7, none, .fa 0 (.t 2)⟩, ⟨some 8, none, .ld none (.t 7)⟩])
 (.block 0
  (.seq (.seq (.reg [⟨some 10, none, .bin .eql 0 (.t 8) (.k (.int .i64 2))⟩, ⟨some 9, none, .mv (.t 10)⟩])
  (.cond (.t 9)
   .skip
   (.reg [⟨some 11, none, .bin .eql 0 (.t 8) (.k (.int .i64 3))⟩, ⟨some 9, none, .mv (.t 11)⟩])))
  (.cond (.t 9)
   (.seq (.seq (.reg [⟨some 12, none, .fa 2 (.t 2)⟩, ⟨some 13, none, .ld none (.t 12)⟩, ⟨some 14, none, .call true 93 [(.t 13)]⟩, ⟨some 15, none, .un .not (.t 14)⟩])
   (.cond (.t 15)
    (.seq (.reg [⟨some 16, none, .bd [.lit 1 [], .lit 1 []] []⟩, ⟨none, none, .st 2 (.t 4) (.t 16)⟩, ⟨some 5, none, .mv (.k (.int .i64 13))⟩])
    .ret)
    .skip))
   (.seq (.seq (.reg [⟨some 17, none, .fa 0 (.t 2)⟩, ⟨some 18, none, .ld none (.t 17)⟩, ⟨some 19, none, .bin .eql 0 (.t 18) (.k (.int .i64 2))⟩])
   (.cond (.t 19)
    (.seq (.reg [⟨some 20, none, .fa 2 (.t 2)⟩, ⟨some 21, none, .ld none (.t 20)⟩, ⟨some 22, none, .fa 4 (.t 2)⟩, ⟨some 23, none, .ld none (.t 22)⟩, ⟨some 24, none, .call false 48 [(.t 21), (.t 23)]⟩, ⟨none, none, .st 2 (.t 4) (.t 24)⟩, ⟨some 5, none, .mv (.k (.int .i64 0))⟩])
    .ret)
    .skip))
   (.seq (.seq (.drs [⟨some 25, none, .ld (some 7) (.t 2)⟩, ⟨some 26, none, .call true 152 [(.t 25), (.k (.int .i64 1))]⟩, ⟨some 27, none, .un .not (.t 26)⟩, ⟨some 28, none, .mv (.t 27)⟩, ⟨some 29, (some (28, false)), .fa 3 (.t 2)⟩, ⟨some 30, (some (28, false)), .ld none (.t 29)⟩, ⟨some 31, (some (28, false)), .ia 1 (.t 30) (.k (.int .i64 0))⟩, ⟨some 32, (some (28, false)), .ld none (.t 31)⟩, ⟨some 33, (some (28, false)), .bin .lss 0 (.t 32) (.k (.int .i64 0))⟩, ⟨some 34, none, .pk (.t 28) (.k (.bool true)) (.t 33)⟩, ⟨some 35, none, .mv (.t 34)⟩, ⟨some 36, (some (35, false)), .fa 3 (.t 2)⟩, ⟨some 37, (some (35, false)), .ld none (.t 36)⟩, ⟨some 38, (some (35, false)), .ia 1 (.t 37) (.k (.int .i64 0))⟩, ⟨some 39, (some (35, false)), .ld none (.t 38)⟩, ⟨some 40, (some (35, false)), .fa 2 (.t 2)⟩, ⟨some 41, (some (35, false)), .ld none (.t 40)⟩, ⟨some 42, (some (35, false)), .ln false (.t 41)⟩, ⟨some 43, (some (35, false)), .bin .geq 0 (.t 39) (.t 42)⟩, ⟨some 44, none, .pk (.t 35) (.k (.bool true)) (.t 43)⟩])
   (.cond (.t 44)
    (.seq (.reg [⟨some 45, none, .bd [.lit 1 [], .lit 1 []] []⟩, ⟨none, none, .st 2 (.t 4) (.t 45)⟩, ⟨some 5, none, .mv (.k (.int .i64 1))⟩])
    .ret)
    .skip))
   (.seq (.drs [⟨some 46, none, .fa 2 (.t 2)⟩, ⟨some 47, none, .ld none (.t 46)⟩, ⟨some 48, none, .fa 3 (.t 2)⟩, ⟨some 49, none, .ld none (.t 48)⟩, ⟨some 50, none, .ia 1 (.t 49) (.k (.int .i64 0))⟩, ⟨some 51, none, .ld none (.t 50)⟩, ⟨some 52, none, .call true 153 [(.t 47), (.t 51)]⟩, ⟨none, none, .st 2 (.t 4) (.t 52)⟩, ⟨some 5, none, .mv (.k (.int .i64 0))⟩])
   .ret))))
   (.seq (.seq (.reg [⟨some 54, none, .bin .eql 0 (.t 8) (.k (.int .i64 4))⟩, ⟨some 53, none, .mv (.t 54)⟩])
   (.cond (.t 53)
    .skip
    (.reg [⟨some 55, none, .bin .eql 0 (.t 8) (.k (.int .i64 5))⟩, ⟨some 53, none, .mv (.t 55)⟩])))
   (.cond (.t 53)
    (.seq (.drs [⟨some 56, none, .fa 0 (.t 2)⟩, ⟨some 57, none, .ld none (.t 56)⟩, ⟨some 58, none, .mv (.t 1)⟩, ⟨some 59, none, .ia 2 (.t 58) (.k (.int .i64 0))⟩, ⟨some 60, none, .ld (some 2) (.t 59)⟩, ⟨some 61, none, .call true 154 [(.t 57), (.t 60)]⟩, ⟨some 62, none, .ex (.t 61) 0⟩, ⟨some 63, none, .ex (.t 61) 1⟩, ⟨none, none, .st 2 (.t 4) (.t 62)⟩, ⟨some 5, none, .mv (.t 63)⟩])
    .ret)
    (.seq (.reg [⟨some 65, none, .bin .eql 0 (.t 8) (.k (.int .i64 12))⟩, ⟨some 64, none, .mv (.t 65)⟩])
    (.cond (.t 64)
     (.seq (.drs [⟨some 66, none, .mv (.t 1)⟩, ⟨some 67, none, .ia 2 (.t 66) (.k (.int .i64 0))⟩, ⟨some 68, none, .ld (some 2) (.t 67)⟩, ⟨some 69, none, .mv (.t 1)⟩, ⟨some 70, none, .ia 2 (.t 69) (.k (.int .i64 1))⟩, ⟨some 71, none, .ld (some 2) (.t 70)⟩, ⟨some 72, none, .mv (.t 1)⟩, ⟨some 73, none, .ia 2 (.t 72) (.k (.int .i64 2))⟩, ⟨some 74, none, .ld (some 2) (.t 73)⟩, ⟨some 75, none, .call true 155 [(.t 68), (.t 71), (.t 74)]⟩, ⟨some 76, none, .ex (.t 75) 0⟩, ⟨some 77, none, .ex (.t 75) 1⟩, ⟨none, none, .st 2 (.t 4) (.t 76)⟩, ⟨some 5, none, .mv (.t 77)⟩])
     .ret)
     (.seq (.reg [⟨some 79, none, .bin .eql 0 (.t 8) (.k (.int .i64 13))⟩, ⟨some 78, none, .mv (.t 79)⟩])
     (.cond (.t 78)
      (.seq (.drs [⟨some 80, none, .mv (.t 1)⟩, ⟨some 81, none, .ia 2 (.t 80) (.k (.int .i64 0))⟩, ⟨some 82, none, .ld (some 2) (.t 81)⟩, ⟨some 83, none, .fa 3 (.t 2)⟩, ⟨some 84, none, .ld none (.t 83)⟩, ⟨some 85, none, .call true 156 [(.t 82), (.t 84)]⟩, ⟨some 86, none, .ex (.t 85) 0⟩, ⟨some 87, none, .ex (.t 85) 1⟩, ⟨none, none, .st 2 (.t 4) (.t 86)⟩, ⟨some 5, none, .mv (.t 87)⟩])
      .ret)
      (.seq (.reg [⟨some 89, none, .bin .eql 0 (.t 8) (.k (.int .i64 14))⟩, ⟨some 88, none, .mv (.t 89)⟩])
      (.cond (.t 88)
       (.seq (.drs [⟨some 90, none, .mv (.t 1)⟩, ⟨some 91, none, .ia 2 (.t 90) (.k (.int .i64 0))⟩, ⟨some 92, none, .ld (some 2) (.t 91)⟩, ⟨some 93, none, .fa 2 (.t 2)⟩, ⟨some 94, none, .ld none (.t 93)⟩, ⟨some 95, none, .fa 3 (.t 2)⟩, ⟨some 96, none, .ld none (.t 95)⟩, ⟨some 97, none, .call true 157 [(.t 92), (.t 94), (.t 96)]⟩, ⟨some 98, none, .ex (.t 97) 0⟩, ⟨some 99, none, .ex (.t 97) 1⟩, ⟨none, none, .st 2 (.t 4) (.t 98)⟩, ⟨some 5, none, .mv (.t 99)⟩])
       .ret)
       (.seq (.seq (.reg [⟨some 101, none, .bin .eql 0 (.t 8) (.k (.int .i64 15))⟩, ⟨some 100, none, .mv (.t 101)⟩])
       (.cond (.t 100)
        .skip
        (.reg [⟨some 102, none, .bin .eql 0 (.t 8) (.k (.int .i64 16))⟩, ⟨some 100, none, .mv (.t 102)⟩])))
       (.cond (.t 100)
        (.seq (.reg [⟨some 103, none, .mv (.t 1)⟩, ⟨some 104, none, .ia 2 (.t 103) (.k (.int .i64 0))⟩, ⟨some 105, none, .fa 0 (.t 104)⟩, ⟨some 106, none, .ld none (.t 105)⟩, ⟨some 107, none, .ln false (.t 106)⟩, ⟨some 6, none, .mv (.t 107)⟩])
        (.seq (.seq (.reg [⟨some 108, none, .ld (some 7) (.t 2)⟩, ⟨some 109, none, .mv (.t 6)⟩, ⟨some 110, none, .bin .mul 0 (.k (.int .i64 2)) (.t 109)⟩, ⟨some 111, none, .call true 152 [(.t 108), (.t 110)]⟩, ⟨some 112, none, .un .not (.t 111)⟩])
        (.cond (.t 112)
         (.seq (.reg [⟨some 113, none, .bd [.lit 1 [], .lit 1 []] []⟩, ⟨none, none, .st 2 (.t 4) (.t 113)⟩, ⟨some 5, none, .mv (.k (.int .i64 1))⟩])
         .ret)
         .skip))
        (.seq (.seq (.reg [⟨some 114, none, .fa 0 (.t 2)⟩, ⟨some 115, none, .ld none (.t 114)⟩, ⟨some 116, none, .bin .eql 0 (.t 115) (.k (.int .i64 15))⟩])
        (.cond (.t 116)
         (.seq (.drs [⟨some 117, none, .mv (.t 1)⟩, ⟨some 118, none, .ia 2 (.t 117) (.k (.int .i64 0))⟩, ⟨some 119, none, .ld (some 2) (.t 118)⟩, ⟨some 120, none, .fa 3 (.t 2)⟩, ⟨some 121, none, .ld none (.t 120)⟩, ⟨some 122, none, .mv (.t 6)⟩, ⟨some 123, none, .sc 1 (.t 121) none (some (.t 122)) none⟩, ⟨some 124, none, .fa 3 (.t 2)⟩, ⟨some 125, none, .ld none (.t 124)⟩, ⟨some 126, none, .mv (.t 6)⟩, ⟨some 127, none, .sc 1 (.t 125) (some (.t 126)) none none⟩, ⟨some 128, none, .call true 158 [(.t 119), (.t 123), (.t 127)]⟩, ⟨some 129, none, .ex (.t 128) 0⟩, ⟨some 130, none, .ex (.t 128) 1⟩, ⟨none, none, .st 2 (.t 4) (.t 129)⟩, ⟨some 5, none, .mv (.t 130)⟩])
         .ret)
         .skip))
        (.seq (.drs [⟨some 131, none, .mv (.t 1)⟩, ⟨some 132, none, .ia 2 (.t 131) (.k (.int .i64 0))⟩, ⟨some 133, none, .ld (some 2) (.t 132)⟩, ⟨some 134, none, .fa 3 (.t 2)⟩, ⟨some 135, none, .ld none (.t 134)⟩, ⟨some 136, none, .mv (.t 6)⟩, ⟨some 137, none, .sc 1 (.t 135) none (some (.t 136)) none⟩, ⟨some 138, none, .fa 3 (.t 2)⟩, ⟨some 139, none, .ld none (.t 138)⟩, ⟨some 140, none, .mv (.t 6)⟩, ⟨some 141, none, .sc 1 (.t 139) (some (.t 140)) none none⟩, ⟨some 142, none, .fa 4 (.t 2)⟩, ⟨some 143, none, .ld none (.t 142)⟩, ⟨some 144, none, .call true 159 [(.t 133), (.t 137), (.t 141), (.t 143)]⟩, ⟨some 145, none, .ex (.t 144) 0⟩, ⟨some 146, none, .ex (.t 144) 1⟩, ⟨none, none, .st 2 (.t 4) (.t 145)⟩, ⟨some 5, none, .mv (.t 146)⟩])
        .ret))))
        (.seq (.seq (.reg [⟨some 148, none, .bin .eql 0 (.t 8) (.k (.int .i64 17))⟩, ⟨some 147, none, .mv (.t 148)⟩])
        (.cond (.t 147)
         .skip
         (.reg [⟨some 149, none, .bin .eql 0 (.t 8) (.k (.int .i64 19))⟩, ⟨some 147, none, .mv (.t 149)⟩])))
        (.cond (.t 147)
         (.seq (.seq (.reg [⟨some 150, none, .ld (some 7) (.t 2)⟩, ⟨some 151, none, .call true 152 [(.t 150), (.k (.int .i64 1))]⟩, ⟨some 152, none, .un .not (.t 151)⟩])
         (.cond (.t 152)
          (.seq (.reg [⟨some 153, none, .bd [.lit 1 [], .lit 1 []] []⟩, ⟨none, none, .st 2 (.t 4) (.t 153)⟩, ⟨some 5, none, .mv (.k (.int .i64 1))⟩])
          .ret)
          .skip))
         (.seq (.seq (.reg [⟨some 154, none, .fa 0 (.t 2)⟩, ⟨some 155, none, .ld none (.t 154)⟩, ⟨some 156, none, .bin .eql 0 (.t 155) (.k (.int .i64 17))⟩])
         (.cond (.t 156)
          (.seq (.reg [⟨some 157, none, .fa 3 (.t 2)⟩, ⟨some 158, none, .ld none (.t 157)⟩, ⟨some 159, none, .ia 1 (.t 158) (.k (.int .i64 0))⟩, ⟨some 160, none, .ld none (.t 159)⟩, ⟨some 161, none, .mv (.t 1)⟩, ⟨some 162, none, .call true 54 [(.t 160), (.t 161)]⟩, ⟨some 163, none, .ex (.t 162) 0⟩, ⟨some 164, none, .ex (.t 162) 1⟩, ⟨none, none, .st 2 (.t 4) (.t 163)⟩, ⟨some 5, none, .mv (.t 164)⟩])
          .ret)
          .skip))
         (.seq (.drs [⟨some 165, none, .mv (.t 1)⟩, ⟨some 166, none, .ia 2 (.t 165) (.k (.int .i64 0))⟩, ⟨some 167, none, .ld (some 2) (.t 166)⟩, ⟨some 168, none, .mv (.t 1)⟩, ⟨some 169, none, .ia 2 (.t 168) (.k (.int .i64 1))⟩, ⟨some 170, none, .ld (some 2) (.t 169)⟩, ⟨some 171, none, .fa 3 (.t 2)⟩, ⟨some 172, none, .ld none (.t 171)⟩, ⟨some 173, none, .ia 1 (.t 172) (.k (.int .i64 0))⟩, ⟨some 174, none, .ld none (.t 173)⟩, ⟨some 175, none, .call true 160 [(.t 167), (.t 170), (.t 174)]⟩, ⟨some 176, none, .ex (.t 175) 0⟩, ⟨some 177, none, .ex (.t 175) 1⟩, ⟨none, none, .st 2 (.t 4) (.t 176)⟩, ⟨some 5, none, .mv (.t 177)⟩])
         .ret)))
         (.seq (.reg [⟨some 179, none, .bin .eql 0 (.t 8) (.k (.int .i64 18))⟩, ⟨some 178, none, .mv (.t 179)⟩])
         (.cond (.t 178)
          (.seq (.drs [⟨some 180, none, .fa 5 (.t 2)⟩, ⟨some 181, none, .ld none (.t 180)⟩, ⟨some 182, none, .mv (.t 1)⟩, ⟨some 183, none, .ia 2 (.t 182) (.k (.int .i64 0))⟩, ⟨some 184, none, .ld (some 2) (.t 183)⟩, ⟨some 185, none, .fa 3 (.t 2)⟩, ⟨some 186, none, .ld none (.t 185)⟩, ⟨some 187, none, .call true 161 [(.t 181), (.t 184), (.t 186)]⟩, ⟨some 188, none, .ex (.t 187) 0⟩, ⟨some 189, none, .ex (.t 187) 1⟩, ⟨none, none, .st 2 (.t 4) (.t 188)⟩, ⟨some 5, none, .mv (.t 189)⟩])
          .ret)
          (.seq (.reg [⟨some 191, none, .bin .eql 0 (.t 8) (.k (.int .i64 20))⟩, ⟨some 190, none, .mv (.t 191)⟩])
          (.cond (.t 190)
           (.seq (.seq (.reg [⟨some 192, none, .ld (some 7) (.t 2)⟩, ⟨some 193, none, .call true 152 [(.t 192), (.k (.int .i64 3))]⟩, ⟨some 194, none, .un .not (.t 193)⟩])
           (.cond (.t 194)
            (.seq (.reg [⟨some 195, none, .bd [.lit 1 [], .lit 1 []] []⟩, ⟨none, none, .st 2 (.t 4) (.t 195)⟩, ⟨some 5, none, .mv (.k (.int .i64 1))⟩])
            .ret)
            .skip))
           (.seq (.drs [⟨some 196, none, .fa 5 (.t 2)⟩, ⟨some 197, none, .ld none (.t 196)⟩, ⟨some 198, none, .mv (.t 1)⟩, ⟨some 199, none, .ia 2 (.t 198) (.k (.int .i64 0))⟩, ⟨some 200, none, .ld (some 2) (.t 199)⟩, ⟨some 201, none, .fa 3 (.t 2)⟩, ⟨some 202, none, .ld none (.t 201)⟩, ⟨some 203, none, .ia 1 (.t 202) (.k (.int .i64 0))⟩, ⟨some 204, none, .ld none (.t 203)⟩, ⟨some 205, none, .fa 3 (.t 2)⟩, ⟨some 206, none, .ld none (.t 205)⟩, ⟨some 207, none, .ia 1 (.t 206) (.k (.int .i64 1))⟩, ⟨some 208, none, .ld none (.t 207)⟩, ⟨some 209, none, .fa 3 (.t 2)⟩, ⟨some 210, none, .ld none (.t 209)⟩, ⟨some 211, none, .ia 1 (.t 210) (.k (.int .i64 2))⟩, ⟨some 212, none, .ld none (.t 211)⟩, ⟨some 213, none, .call true 162 [(.t 197), (.t 200), (.t 204), (.t 208), (.t 212)]⟩, ⟨some 214, none, .ex (.t 213) 0⟩, ⟨some 215, none, .ex (.t 213) 1⟩, ⟨none, none, .st 2 (.t 4) (.t 214)⟩, ⟨some 5, none, .mv (.t 215)⟩])
           .ret))
           .skip))))))))))))))))))))
 (.seq (.drs [⟨some 216, none, .fa 0 (.t 2)⟩, ⟨some 217, none, .ld none (.t 216)⟩, ⟨some 218, none, .mv (.t 1)⟩, ⟨some 219, none, .ia 2 (.t 218) (.k (.int .i64 0))⟩, ⟨some 220, none, .ld (some 2) (.t 219)⟩, ⟨some 221, none, .mv (.t 1)⟩, ⟨some 222, none, .ia 2 (.t 221) (.k (.int .i64 1))⟩, ⟨some 223, none, .ld (some 2) (.t 222)⟩, ⟨some 224, none, .call true 163 [(.t 217), (.t 220), (.t 223)]⟩, ⟨some 225, none, .ex (.t 224) 0⟩, ⟨some 226, none, .ex (.t 224) 1⟩, ⟨none, none, .st 2 (.t 4) (.t 225)⟩, ⟨some 5, none, .mv (.t 226)⟩])
 .ret)))
set_option maxRecDepth 100000 in
theorem er143 : (Try.f143.body.bind (erC Try.prog cfg 227)) = some c143 := by kernel_rfl
theorem in143 {args : List AV} {σ : St} {Q : AV → St → Prop} (hlen : args.length ≤ 227) (h : σ.Wf → (∀ i, i < args.length → Hab (args.getD i .undef)) → SWP Try.prog σ.next c143 (retQ σ.next [.c (some 2) 4, .t 5] Q) (fun i => args.getD i .undef) σ) : TQ Try.prog 143 args σ Q := by
 obtain ⟨k, hb, hk⟩ := Option.bind_eq_some_iff.1 er143
 exact TQ_of (fn := Try.f143) Try.func143 (by kernel_rfl) hb (erC_is mixed hk) (by kernel_rfl) hlen h

/-! parquetry/parquetryref10.form -/
def c151 : C :=
 (.seq (.reg [⟨some 2, none, .bx (.t 0)⟩, ⟨some 4, none, .mv (.k (.bool false))⟩])
 (.seq (.reg [⟨some 11, none, .fa 0 (.t 2)⟩, ⟨some 12, none, .ld none (.t 11)⟩, ⟨some 13, none, .call true 164 [(.t 12)]⟩, ⟨some 10, none, .mv (.t 13)⟩, ⟨some 14, none, .ex (.t 10) 0⟩, ⟨some 15, none, .ex (.t 10) 1⟩, ⟨some 16, none, .ex (.t 10) 2⟩, ⟨some 17, none, .ex (.t 10) 3⟩, ⟨some 18, none, .ex (.t 10) 4⟩, ⟨some 5, none, .mv (.t 14)⟩, ⟨some 6, none, .mv (.t 15)⟩, ⟨some 7, none, .mv (.t 16)⟩, ⟨some 8, none, .mv (.t 17)⟩, ⟨some 9, none, .mv (.t 18)⟩])
 (.seq (.seq (.reg [⟨some 19, none, .mv (.t 5)⟩, ⟨some 20, none, .bin .eql 0 (.t 19) (.k (.int .i64 (-2)))⟩, ⟨some 21, none, .mv (.t 20)⟩, ⟨some 22, (some (21, false)), .mv (.t 5)⟩, ⟨some 23, (some (21, false)), .bin .geq 0 (.t 22) (.k (.int .i64 0))⟩, ⟨some 24, (some (21, false)), .mv (.t 23)⟩, ⟨some 25, (some (24, true)), .mv (.t 1)⟩, ⟨some 26, (some (24, true)), .mv (.t 5)⟩, ⟨some 27, (some (24, true)), .bin .neq 0 (.t 25) (.t 26)⟩, ⟨some 28, (some (21, false)), .pk (.t 24) (.t 27) (.k (.bool false))⟩, ⟨some 29, none, .pk (.t 21) (.k (.bool true)) (.t 28)⟩, ⟨some 30, none, .mv (.t 29)⟩, ⟨some 31, (some (30, false)), .mv (.t 5)⟩, ⟨some 32, (some (30, false)), .bin .eql 0 (.t 31) (.k (.int .i64 (-1)))⟩, ⟨some 33, (some (30, false)), .mv (.t 32)⟩, ⟨some 34, (some (33, true)), .mv (.t 1)⟩, ⟨some 35, (some (33, true)), .bin .lss 0 (.t 34) (.k (.int .i64 2))⟩, ⟨some 36, (some (30, false)), .pk (.t 33) (.t 35) (.k (.bool false))⟩, ⟨some 37, none, .pk (.t 30) (.k (.bool true)) (.t 36)⟩])
 (.cond (.t 37)
  (.seq (.reg [⟨some 4, none, .mv (.k (.bool false))⟩])
  .ret)
  .skip))
 (.seq (.reg [⟨some 38, none, .mv (.t 6)⟩, ⟨some 39, none, .mv (.t 38)⟩, ⟨some 40, (some (39, false)), .fa 2 (.t 2)⟩, ⟨some 41, (some (39, false)), .ld none (.t 40)⟩, ⟨some 42, (some (39, false)), .ln false (.t 41)⟩, ⟨some 43, (some (39, false)), .bin .eql 0 (.t 42) (.k (.int .i64 0))⟩, ⟨some 44, none, .pk (.t 39) (.k (.bool true)) (.t 43)⟩, ⟨some 45, none, .mv (.t 44)⟩, ⟨some 46, (some (45, true)), .mv (.t 7)⟩, ⟨some 47, (some (45, true)), .mv (.t 46)⟩, ⟨some 48, (some (47, false)), .fa 3 (.t 2)⟩, ⟨some 49, (some (47, false)), .ld none (.t 48)⟩, ⟨some 50, (some (47, false)), .ln false (.t 49)⟩, ⟨some 51, (some (47, false)), .bin .eql 0 (.t 50) (.k (.int .i64 0))⟩, ⟨some 52, (some (45, true)), .pk (.t 47) (.k (.bool true)) (.t 51)⟩, ⟨some 53, none, .pk (.t 45) (.t 52) (.k (.bool false))⟩, ⟨some 54, none, .mv (.t 53)⟩, ⟨some 55, (some (54, true)), .mv (.t 8)⟩, ⟨some 56, (some (54, true)), .mv (.t 55)⟩, ⟨some 57, (some (56, false)), .fa 4 (.t 2)⟩, ⟨some 58, (some (56, false)), .ld none (.t 57)⟩, ⟨some 59, (some (56, false)), .bin .eql 0 (.t 58) (.k (.int .i64 0))⟩, ⟨some 60, (some (54, true)), .pk (.t 56) (.k (.bool true)) (.t 59)⟩, ⟨some 61, none, .pk (.t 54) (.t 60) (.k (.bool false))⟩, ⟨some 62, none, .mv (.t 61)⟩, ⟨some 63, (some (62, true)), .mv (.t 9)⟩, ⟨some 64, (some (62, true)), .mv (.t 63)⟩, ⟨some 65, (some (64, false)), .fa 5 (.t 2)⟩, ⟨some 66, (some (64, false)), .ld none (.t 65)⟩, ⟨some 67, (some (64, false)), .bin .eql 0 (.t 66) (.k (.int .i64 0))⟩, ⟨some 68, (some (62, true)), .pk (.t 64) (.k (.bool true)) (.t 67)⟩, ⟨some 69, none, .pk (.t 62) (.t 68) (.k (.bool false))⟩, ⟨some 4, none, .mv (.t 69)⟩])
 .ret))))
set_option maxRecDepth 100000 in
theorem er151 : (Try.f151.body.bind (erC Try.prog cfg 70)) = some c151 := by kernel_rfl
theorem in151 {args : List AV} {σ : St} {Q : AV → St → Prop} (hlen : args.length ≤ 70) (h : σ.Wf → (∀ i, i < args.length → Hab (args.getD i .undef)) → SWP Try.prog σ.next c151 (retQ σ.next [.t 4] Q) (fun i => args.getD i .undef) σ) : TQ Try.prog 151 args σ Q := by
 obtain ⟨k, hb, hk⟩ := Option.bind_eq_some_iff.1 er151
 exact TQ_of (fn := Try.f151) Try.func151 (by kernel_rfl) hb (erC_is mixed hk) (by kernel_rfl) hlen h

/-! parquetry/parquetryref10.count -/
/-! parquetry/parquetryref10.takes -/
def c164 : C :=
 (.seq (.reg [⟨some 2, none, .mv (.k (.int .i64 0))⟩, ⟨some 3, none, .mv (.k (.bool false))⟩, ⟨some 4, none, .mv (.k (.bool false))⟩, ⟨some 5, none, .mv (.k (.bool false))⟩, ⟨some 6, none, .mv (.k (.bool false))⟩])
 (.seq (.block 0
  (.seq (.reg [⟨some 8, none, .mv (.t 0)⟩, ⟨some 9, none, .bin .eql 0 (.t 8) (.k (.int .i64 1))⟩, ⟨some 7, none, .mv (.t 9)⟩])
  (.cond (.t 7)
   (.seq (.reg [⟨some 2, none, .mv (.k (.int .i64 0))⟩, ⟨some 3, none, .mv (.k (.bool true))⟩, ⟨some 4, none, .mv (.k (.bool false))⟩, ⟨some 5, none, .mv (.k (.bool false))⟩, ⟨some 6, none, .mv (.k (.bool false))⟩])
   .ret)
   (.seq (.reg [⟨some 11, none, .mv (.t 0)⟩, ⟨some 12, none, .bin .eql 0 (.t 11) (.k (.int .i64 2))⟩, ⟨some 10, none, .mv (.t 12)⟩])
   (.cond (.t 10)
    (.seq (.reg [⟨some 2, none, .mv (.k (.int .i64 0))⟩, ⟨some 3, none, .mv (.k (.bool true))⟩, ⟨some 4, none, .mv (.k (.bool false))⟩, ⟨some 5, none, .mv (.k (.bool true))⟩, ⟨some 6, none, .mv (.k (.bool false))⟩])
    .ret)
    (.seq (.reg [⟨some 14, none, .mv (.t 0)⟩, ⟨some 15, none, .bin .eql 0 (.t 14) (.k (.int .i64 3))⟩, ⟨some 13, none, .mv (.t 15)⟩])
    (.cond (.t 13)
     (.seq (.reg [⟨some 2, none, .mv (.k (.int .i64 0))⟩, ⟨some 3, none, .mv (.k (.bool true))⟩, ⟨some 4, none, .mv (.k (.bool true))⟩, ⟨some 5, none, .mv (.k (.bool false))⟩, ⟨some 6, none, .mv (.k (.bool false))⟩])
     .ret)
     (.seq (.reg [⟨some 17, none, .mv (.t 0)⟩, ⟨some 18, none, .bin .eql 0 (.t 17) (.k (.int .i64 4))⟩, ⟨some 19, none, .mv (.t 18)⟩, ⟨some 20, (some (19, false)), .mv (.t 0)⟩, ⟨some 21, (some (19, false)), .bin .eql 0 (.t 20) (.k (.int .i64 5))⟩, ⟨some 22, none, .pk (.t 19) (.k (.bool true)) (.t 21)⟩, ⟨some 16, none, .mv (.t 22)⟩])
     (.cond (.t 16)
      (.seq (.reg [⟨some 2, none, .mv (.k (.int .i64 1))⟩, ⟨some 3, none, .mv (.k (.bool false))⟩, ⟨some 4, none, .mv (.k (.bool false))⟩, ⟨some 5, none, .mv (.k (.bool false))⟩, ⟨some 6, none, .mv (.k (.bool false))⟩])
      .ret)
      (.seq (.reg [⟨some 24, none, .mv (.t 0)⟩, ⟨some 25, none, .bin .geq 0 (.t 24) (.k (.int .i64 6))⟩, ⟨some 26, none, .mv (.t 25)⟩, ⟨some 27, (some (26, true)), .mv (.t 0)⟩, ⟨some 28, (some (26, true)), .bin .leq 0 (.t 27) (.k (.int .i64 11))⟩, ⟨some 29, none, .pk (.t 26) (.t 28) (.k (.bool false))⟩, ⟨some 23, none, .mv (.t 29)⟩])
      (.cond (.t 23)
       (.seq (.reg [⟨some 2, none, .mv (.k (.int .i64 2))⟩, ⟨some 3, none, .mv (.k (.bool false))⟩, ⟨some 4, none, .mv (.k (.bool false))⟩, ⟨some 5, none, .mv (.k (.bool false))⟩, ⟨some 6, none, .mv (.k (.bool false))⟩])
       .ret)
       (.seq (.reg [⟨some 31, none, .mv (.t 0)⟩, ⟨some 32, none, .bin .eql 0 (.t 31) (.k (.int .i64 12))⟩, ⟨some 30, none, .mv (.t 32)⟩])
       (.cond (.t 30)
        (.seq (.reg [⟨some 2, none, .mv (.k (.int .i64 3))⟩, ⟨some 3, none, .mv (.k (.bool false))⟩, ⟨some 4, none, .mv (.k (.bool false))⟩, ⟨some 5, none, .mv (.k (.bool false))⟩, ⟨some 6, none, .mv (.k (.bool false))⟩])
        .ret)
        (.seq (.reg [⟨some 34, none, .mv (.t 0)⟩, ⟨some 35, none, .bin .eql 0 (.t 34) (.k (.int .i64 13))⟩, ⟨some 36, none, .mv (.t 35)⟩, ⟨some 37, (some (36, false)), .mv (.t 0)⟩, ⟨some 38, (some (36, false)), .bin .eql 0 (.t 37) (.k (.int .i64 15))⟩, ⟨some 39, none, .pk (.t 36) (.k (.bool true)) (.t 38)⟩, ⟨some 33, none, .mv (.t 39)⟩])
        (.cond (.t 33)
         (.seq (.reg [⟨some 2, none, .mv (.k (.int .i64 1))⟩, ⟨some 3, none, .mv (.k (.bool false))⟩, ⟨some 4, none, .mv (.k (.bool true))⟩, ⟨some 5, none, .mv (.k (.bool false))⟩, ⟨some 6, none, .mv (.k (.bool false))⟩])
         .ret)
         (.seq (.reg [⟨some 41, none, .mv (.t 0)⟩, ⟨some 42, none, .bin .eql 0 (.t 41) (.k (.int .i64 14))⟩, ⟨some 40, none, .mv (.t 42)⟩])
         (.cond (.t 40)
          (.seq (.reg [⟨some 2, none, .mv (.k (.int .i64 1))⟩, ⟨some 3, none, .mv (.k (.bool true))⟩, ⟨some 4, none, .mv (.k (.bool true))⟩, ⟨some 5, none, .mv (.k (.bool false))⟩, ⟨some 6, none, .mv (.k (.bool false))⟩])
          .ret)
          (.seq (.reg [⟨some 44, none, .mv (.t 0)⟩, ⟨some 45, none, .bin .eql 0 (.t 44) (.k (.int .i64 16))⟩, ⟨some 43, none, .mv (.t 45)⟩])
          (.cond (.t 43)
           (.seq (.reg [⟨some 2, none, .mv (.k (.int .i64 1))⟩, ⟨some 3, none, .mv (.k (.bool false))⟩, ⟨some 4, none, .mv (.k (.bool true))⟩, ⟨some 5, none, .mv (.k (.bool true))⟩, ⟨some 6, none, .mv (.k (.bool false))⟩])
           .ret)
           (.seq (.reg [⟨some 47, none, .mv (.t 0)⟩, ⟨some 48, none, .bin .eql 0 (.t 47) (.k (.int .i64 17))⟩, ⟨some 46, none, .mv (.t 48)⟩])
           (.cond (.t 46)
            (.seq (.reg [⟨some 2, none, .mv (.k (.int .i64 (-1)))⟩, ⟨some 3, none, .mv (.k (.bool false))⟩, ⟨some 4, none, .mv (.k (.bool true))⟩, ⟨some 5, none, .mv (.k (.bool false))⟩, ⟨some 6, none, .mv (.k (.bool false))⟩])
            .ret)
            (.seq (.reg [⟨some 50, none, .mv (.t 0)⟩, ⟨some 51, none, .bin .eql 0 (.t 50) (.k (.int .i64 18))⟩, ⟨some 52, none, .mv (.t 51)⟩, ⟨some 53, (some (52, false)), .mv (.t 0)⟩, ⟨some 54, (some (52, false)), .bin .eql 0 (.t 53) (.k (.int .i64 20))⟩, ⟨some 55, none, .pk (.t 52) (.k (.bool true)) (.t 54)⟩, ⟨some 49, none, .mv (.t 55)⟩])
            (.cond (.t 49)
             (.seq (.reg [⟨some 2, none, .mv (.k (.int .i64 1))⟩, ⟨some 3, none, .mv (.k (.bool false))⟩, ⟨some 4, none, .mv (.k (.bool true))⟩, ⟨some 5, none, .mv (.k (.bool false))⟩, ⟨some 6, none, .mv (.k (.bool true))⟩])
             .ret)
             (.seq (.reg [⟨some 57, none, .mv (.t 0)⟩, ⟨some 58, none, .bin .eql 0 (.t 57) (.k (.int .i64 19))⟩, ⟨some 56, none, .mv (.t 58)⟩])
             (.cond (.t 56)
              (.seq (.reg [⟨some 2, none, .mv (.k (.int .i64 2))⟩, ⟨some 3, none, .mv (.k (.bool false))⟩, ⟨some 4, none, .mv (.k (.bool true))⟩, ⟨some 5, none, .mv (.k (.bool false))⟩, ⟨some 6, none, .mv (.k (.bool false))⟩])
              .ret)
              .skip)))))))))))))))))))))))))
 (.seq (.reg [⟨some 2, none, .mv (.k (.int .i64 (-2)))⟩, ⟨some 3, none, .mv (.k (.bool false))⟩, ⟨some 4, none, .mv (.k (.bool false))⟩, ⟨some 5, none, .mv (.k (.bool false))⟩, ⟨some 6, none, .mv (.k (.bool false))⟩])
 .ret)))
set_option maxRecDepth 100000 in
theorem er164 : (Try.f164.body.bind (erC Try.prog cfg 59)) = some c164 := by kernel_rfl
theorem in164 {args : List AV} {σ : St} {Q : AV → St → Prop} (hlen : args.length ≤ 59) (h : σ.Wf → (∀ i, i < args.length → Hab (args.getD i .undef)) → SWP Try.prog σ.next c164 (retQ σ.next [.t 2, .t 3, .t 4, .t 5, .t 6] Q) (fun i => args.getD i .undef) σ) : TQ Try.prog 164 args σ Q := by
 obtain ⟨k, hb, hk⟩ := Option.bind_eq_some_iff.1 er164
 exact TQ_of (fn := Try.f164) Try.func164 (by kernel_rfl) hb (erC_is mixed hk) (by kernel_rfl) hlen h

/-! parquetry/parquetryref4.Step -/
def c166 : C :=
 (.seq (.reg [⟨some 6, none, .mv (.k (.int .i64 0))⟩])
 (.seq (.seq (.reg [⟨some 7, none, .mv (.t 0)⟩])
 (.block 0
  (.seq (.reg [⟨some 9, none, .bin .eql 0 (.t 7) (.k (.int .i64 4))⟩, ⟨some 8, none, .mv (.t 9)⟩])
  (.cond (.t 8)
   (.seq (.reg [⟨some 10, none, .mv (.t 1)⟩, ⟨some 11, none, .un .neg (.t 10)⟩, ⟨some 6, none, .mv (.t 11)⟩])
   .ret)
   (.seq (.reg [⟨some 13, none, .bin .eql 0 (.t 7) (.k (.int .i64 5))⟩, ⟨some 12, none, .mv (.t 13)⟩])
   (.cond (.t 12)
    (.seq (.reg [⟨some 14, none, .mv (.t 1)⟩, ⟨some 15, none, .bin .eql 0 (.t 14) (.k (.int .i64 0))⟩, ⟨some 16, none, .call true 174 [(.t 15)]⟩, ⟨some 6, none, .mv (.t 16)⟩])
    .ret)
    (.seq (.reg [⟨some 18, none, .bin .eql 0 (.t 7) (.k (.int .i64 6))⟩, ⟨some 17, none, .mv (.t 18)⟩])
    (.cond (.t 17)
     (.seq (.reg [⟨some 19, none, .mv (.t 1)⟩, ⟨some 20, none, .mv (.t 2)⟩, ⟨some 21, none, .bin .add 0 (.t 19) (.t 20)⟩, ⟨some 6, none, .mv (.t 21)⟩])
     .ret)
     (.seq (.reg [⟨some 23, none, .bin .eql 0 (.t 7) (.k (.int .i64 7))⟩, ⟨some 22, none, .mv (.t 23)⟩])
     (.cond (.t 22)
      (.seq (.reg [⟨some 24, none, .mv (.t 1)⟩, ⟨some 25, none, .mv (.t 2)⟩, ⟨some 26, none, .bin .sub 0 (.t 24) (.t 25)⟩, ⟨some 6, none, .mv (.t 26)⟩])
      .ret)
      (.seq (.reg [⟨some 28, none, .bin .eql 0 (.t 7) (.k (.int .i64 8))⟩, ⟨some 27, none, .mv (.t 28)⟩])
      (.cond (.t 27)
       (.seq (.reg [⟨some 29, none, .mv (.t 1)⟩, ⟨some 30, none, .mv (.t 2)⟩, ⟨some 31, none, .bin .mul 0 (.t 29) (.t 30)⟩, ⟨some 6, none, .mv (.t 31)⟩])
       .ret)
       (.seq (.reg [⟨some 33, none, .bin .eql 0 (.t 7) (.k (.int .i64 9))⟩, ⟨some 32, none, .mv (.t 33)⟩])
       (.cond (.t 32)
        (.seq (.reg [⟨some 34, none, .mv (.t 1)⟩, ⟨some 35, none, .mv (.t 2)⟩, ⟨some 36, none, .mx false (.t 34) (.t 35)⟩, ⟨some 6, none, .mv (.t 36)⟩])
        .ret)
        (.seq (.reg [⟨some 38, none, .bin .eql 0 (.t 7) (.k (.int .i64 10))⟩, ⟨some 37, none, .mv (.t 38)⟩])
        (.cond (.t 37)
         (.seq (.reg [⟨some 39, none, .mv (.t 1)⟩, ⟨some 40, none, .mv (.t 2)⟩, ⟨some 41, none, .mx true (.t 39) (.t 40)⟩, ⟨some 6, none, .mv (.t 41)⟩])
         .ret)
         (.seq (.reg [⟨some 43, none, .bin .eql 0 (.t 7) (.k (.int .i64 11))⟩, ⟨some 42, none, .mv (.t 43)⟩])
         (.cond (.t 42)
          (.seq (.reg [⟨some 44, none, .mv (.t 1)⟩, ⟨some 45, none, .mv (.t 2)⟩, ⟨some 46, none, .bin .lss 0 (.t 44) (.t 45)⟩, ⟨some 47, none, .call true 174 [(.t 46)]⟩, ⟨some 6, none, .mv (.t 47)⟩])
          .ret)
          .skip))))))))))))))))))
 (.seq (.reg [⟨some 6, none, .mv (.k (.int .i64 0))⟩])
 .ret)))
set_option maxRecDepth 100000 in
theorem er166 : (Try.f166.body.bind (erC Try.prog cfg 48)) = some c166 := by kernel_rfl
theorem in166 {args : List AV} {σ : St} {Q : AV → St → Prop} (hlen : args.length ≤ 48) (h : σ.Wf → (∀ i, i < args.length → Hab (args.getD i .undef)) → SWP Try.prog σ.next c166 (retQ σ.next [.t 6] Q) (fun i => args.getD i .undef) σ) : TQ Try.prog 166 args σ Q := by
 obtain ⟨k, hb, hk⟩ := Option.bind_eq_some_iff.1 er166
 exact TQ_of (fn := Try.f166) Try.func166 (by kernel_rfl) hb (erC_is mixed hk) (by kernel_rfl) hlen h

/-! parquetry/parquetryref4.number -/
/-! parquetry/parquetryref4.How -/
end Go.Proofs.Ytfjbabacpnnjmaa.Av
