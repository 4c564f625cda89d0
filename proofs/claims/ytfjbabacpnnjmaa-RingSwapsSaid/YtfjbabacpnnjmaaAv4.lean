/- A logic of small values, and walks in it: The code of some functions in few words, and that it is the program's. Printed by a program. -/
import Derived.Test.YtfjbabacpnnjmaaAv3
import Derived.Test.YtfjbabacpnnjmaaProg
import Derived.KernelRfl
set_option linter.unusedVariables false
set_option linter.unusedSimpArgs false
set_option linter.deprecated false
namespace Go.Proofs.Ytfjbabacpnnjmaa.Av
open Go Go.Av

def cfg : Cfg := { data := fun t => ([37, 39, 73, 144] : List Nat).contains t, quiet := fun f => !([17, 19, 20, 22, 23, 24, 25, 37, 38, 39, 41, 42, 43, 45, 48, 52, 53, 55, 56, 59, 65, 69, 70, 74, 75, 77, 78, 81, 82, 83, 84, 85, 89, 96, 97, 106, 109, 112, 122] : List Nat).contains f, quietv := fun _ => true, own := fun _ => false }
theorem mixed : Try.prog.follows .mixedOrders = true := by kernel_rfl

/-! parquetry/parquetrylaw18.CodeNumbers -/
def c5 : C :=
 (.seq (.reg [⟨some 0, none, .mv (.k (.bool false))⟩])
 (.seq (.seq (.reg [⟨some 1, none, .mv (.k (.int .i64 0))⟩])
 (.block 0
  (.loop
   (.seq (.seq (.reg [⟨some 12, none, .mv (.t 1)⟩, ⟨some 13, none, .bin .lss 0 (.t 12) (.k (.int .i64 60))⟩])
   (.cond (.t 13)
    .skip
    (.exit 0)))
   (.seq (.block 1
    (.seq (.reg [⟨some 17, none, .mv (.t 1)⟩, ⟨some 18, none, .call true 18 [(.t 17)]⟩, ⟨some 19, none, .call false 17 [(.t 18)]⟩, ⟨some 16, none, .mv (.t 19)⟩, ⟨some 20, none, .ex (.t 16) 0⟩, ⟨some 21, none, .ex (.t 16) 1⟩, ⟨some 2, none, .mv (.t 20)⟩, ⟨some 3, none, .mv (.t 21)⟩])
    (.seq (.seq (.reg [⟨some 22, none, .mv (.t 2)⟩, ⟨some 23, none, .call false 19 [(.t 22)]⟩, ⟨some 24, none, .un .not (.t 23)⟩])
    (.cond (.t 24)
     (.seq (.reg [⟨some 0, none, .mv (.k (.bool false))⟩])
     .ret)
     .skip))
    (.seq (.reg [⟨some 4, none, .mv (.k (.int .i64 (-1)))⟩])
    (.block 2
     (.loop
      (.seq (.seq (.reg [⟨some 25, none, .mv (.t 4)⟩, ⟨some 26, none, .bin .lss 0 (.t 25) (.k (.int .i64 6))⟩])
      (.cond (.t 26)
       .skip
       (.exit 2)))
      (.seq (.block 3
       (.seq (.reg [⟨some 5, none, .mv (.k (.int .i64 0))⟩])
       (.block 4
        (.loop
         (.seq (.seq (.reg [⟨some 29, none, .mv (.t 5)⟩, ⟨some 30, none, .bin .lss 0 (.t 29) (.k (.int .i64 10))⟩])
         (.cond (.t 30)
          .skip
          (.exit 4)))
         (.seq (.block 5
          (.seq (.reg [⟨some 33, none, .mv (.t 2)⟩, ⟨some 34, none, .mv (.t 5)⟩, ⟨some 35, none, .mv (.t 1)⟩, ⟨some 36, none, .mv (.t 1)⟩, ⟨some 37, none, .bin .mul 0 (.t 36) (.k (.int .i64 3))⟩, ⟨some 38, none, .mv (.t 4)⟩, ⟨some 39, none, .bin .add 0 (.t 37) (.t 38)⟩, ⟨some 40, none, .mv (.t 4)⟩, ⟨some 41, none, .bd [.int .i64 0, .int .i64 0, .int .i64 0, .int .i64 0] [(0, 1, (.t 34)), (1, 1, (.t 35)), (2, 1, (.t 39)), (3, 1, (.t 40))]⟩, ⟨some 42, none, .bs false 4 [.int .i64 0, .int .i64 0, .int .i64 0, .int .i64 0] 1 [(0, (.t 41))]⟩, ⟨some 43, none, .call false 20 [(.t 33), (.t 42)]⟩, ⟨some 44, none, .call false 19 [(.t 43)]⟩, ⟨some 45, none, .un .not (.t 44)⟩])
          (.cond (.t 45)
           (.seq (.reg [⟨some 0, none, .mv (.k (.bool false))⟩])
           .ret)
           .skip)))
         (.reg [⟨some 31, none, .mv (.t 5)⟩, ⟨some 32, none, .bin .add 0 (.t 31) (.k (.int .i64 1))⟩, ⟨some 5, none, .mv (.t 32)⟩])))))))
      (.reg [⟨some 27, none, .mv (.t 4)⟩, ⟨some 28, none, .bin .add 0 (.t 27) (.k (.int .i64 1))⟩, ⟨some 4, none, .mv (.t 28)⟩])))))))))
   (.reg [⟨some 14, none, .mv (.t 1)⟩, ⟨some 15, none, .bin .add 0 (.t 14) (.k (.int .i64 1))⟩, ⟨some 1, none, .mv (.t 15)⟩]))))))
 (.seq (.seq (.reg [⟨some 46, none, .bs false 1 [.int .i64 0] 7 [(0, (.k (.int .i64 (-1)))), (1, (.k (.int .i64 0))), (2, (.k (.int .i64 1))), (3, (.k (.int .i64 65536))), (4, (.k (.int .i64 65537))), (5, (.k (.int .i64 1073741824))), (6, (.k (.int .i64 1073741825)))]⟩, ⟨some 47, none, .ln false (.t 46)⟩, ⟨some 48, none, .mv (.k (.int .i64 0))⟩])
 (.block 6
  (.loop
   (.seq (.reg [⟨some 49, none, .bin .lss 0 (.t 48) (.t 47)⟩])
   (.seq (.cond (.t 49)
    .skip
    (.exit 6))
   (.seq (.block 7
    (.seq (.reg [⟨some 50, none, .ia 1 (.t 46) (.t 48)⟩, ⟨some 51, none, .ld none (.t 50)⟩, ⟨some 7, none, .mv (.t 51)⟩])
    (.seq (.reg [⟨some 8, none, .mv (.k (.int .i64 0))⟩])
    (.block 8
     (.loop
      (.seq (.seq (.reg [⟨some 52, none, .mv (.t 8)⟩, ⟨some 53, none, .bin .lss 0 (.t 52) (.k (.int .i64 6))⟩])
      (.cond (.t 53)
       .skip
       (.exit 8)))
      (.seq (.block 9
       (.seq (.reg [⟨some 56, none, .bs false 1 [.int .i64 0] 1 [(0, (.k (.int .i64 0)))]⟩, ⟨some 57, none, .bs false 1 [.int .i64 0] 2 [(0, (.k (.int .i64 0))), (1, (.k (.int .i64 0)))]⟩, ⟨some 58, none, .bs false 1 [.lit 1 []] 3 [(0, (.k (.nils))), (1, (.t 56)), (2, (.t 57))]⟩, ⟨some 59, none, .ln false (.t 58)⟩, ⟨some 60, none, .mv (.k (.int .i64 0))⟩])
       (.block 10
        (.loop
         (.seq (.reg [⟨some 61, none, .bin .lss 0 (.t 60) (.t 59)⟩])
         (.seq (.cond (.t 61)
          .skip
          (.exit 10))
         (.seq (.block 11
          (.seq (.reg [⟨some 62, none, .ia 1 (.t 58) (.t 60)⟩, ⟨some 63, none, .ld none (.t 62)⟩, ⟨some 10, none, .mv (.t 63)⟩])
          (.seq (.reg [⟨some 64, none, .bd [.int .i64 0, .int .i64 0, .lit 1 [], .int .i64 0, .lit 1 [], .lit 1 [], .lit 1 [], .int .i64 0, .int .i64 0, .str ⟨#[]⟩, .int .i64 0, .int .i64 0, .int .i64 0] [(0, 1, (.k (.int .i64 1)))]⟩, ⟨some 11, none, .al [.int .i64 0, .int .i64 0, .lit 1 [], .int .i64 0, .lit 1 [], .lit 1 [], .lit 1 [], .int .i64 0, .int .i64 0, .str ⟨#[]⟩, .int .i64 0, .int .i64 0, .int .i64 0]⟩, ⟨none, none, .st 13 (.t 11) (.t 64)⟩])
          (.seq (.reg [⟨some 65, none, .ld (some 13) (.t 11)⟩, ⟨some 66, none, .mv (.t 8)⟩, ⟨some 67, none, .mv (.t 7)⟩, ⟨some 68, none, .mv (.t 10)⟩, ⟨some 69, none, .bd [.int .i64 0, .int .i64 0, .lit 1 [], .int .i64 0, .lit 1 [], .lit 1 [], .lit 1 [], .int .i64 0, .int .i64 0, .str ⟨#[]⟩, .int .i64 0, .int .i64 0, .int .i64 0] [(0, 1, (.t 66)), (1, 1, (.t 67)), (2, 1, (.t 68))]⟩, ⟨some 70, none, .bs false 13 [.int .i64 0, .int .i64 0, .lit 1 [], .int .i64 0, .lit 1 [], .lit 1 [], .lit 1 [], .int .i64 0, .int .i64 0, .str ⟨#[]⟩, .int .i64 0, .int .i64 0, .int .i64 0] 2 [(0, (.t 65)), (1, (.t 69))]⟩, ⟨some 71, none, .bs false 1 [.lit 1 []] 1 [(0, (.t 70))]⟩, ⟨some 72, none, .call false 19 [(.t 71)]⟩, ⟨some 73, none, .un .not (.t 72)⟩, ⟨some 74, none, .mv (.t 73)⟩, ⟨some 75, (some (74, false)), .ld (some 13) (.t 11)⟩, ⟨some 76, (some (74, false)), .mv (.t 8)⟩, ⟨some 77, (some (74, false)), .mv (.t 10)⟩, ⟨some 78, (some (74, false)), .mv (.t 7)⟩, ⟨some 79, (some (74, false)), .bd [.int .i64 0, .int .i64 0, .lit 1 [], .int .i64 0, .lit 1 [], .lit 1 [], .lit 1 [], .int .i64 0, .int .i64 0, .str ⟨#[]⟩, .int .i64 0, .int .i64 0, .int .i64 0] [(0, 1, (.t 76)), (2, 1, (.t 77)), (12, 1, (.t 78))]⟩, ⟨some 80, (some (74, false)), .bs false 13 [.int .i64 0, .int .i64 0, .lit 1 [], .int .i64 0, .lit 1 [], .lit 1 [], .lit 1 [], .int .i64 0, .int .i64 0, .str ⟨#[]⟩, .int .i64 0, .int .i64 0, .int .i64 0] 2 [(0, (.t 75)), (1, (.t 79))]⟩, ⟨some 81, (some (74, false)), .bs false 1 [.lit 1 []] 2 [(0, (.t 80)), (1, (.k (.nils)))]⟩, ⟨some 82, (some (74, false)), .call false 19 [(.t 81)]⟩, ⟨some 83, (some (74, false)), .un .not (.t 82)⟩, ⟨some 84, none, .pk (.t 74) (.k (.bool true)) (.t 83)⟩, ⟨some 85, none, .mv (.t 84)⟩, ⟨some 86, (some (85, false)), .ld (some 13) (.t 11)⟩, ⟨some 87, (some (85, false)), .mv (.t 8)⟩, ⟨some 88, (some (85, false)), .mv (.t 10)⟩, ⟨some 89, (some (85, false)), .mv (.t 7)⟩, ⟨some 90, (some (85, false)), .bd [.int .i64 0, .int .i64 0, .lit 1 [], .int .i64 0, .lit 1 [], .lit 1 [], .lit 1 [], .int .i64 0, .int .i64 0, .str ⟨#[]⟩, .int .i64 0, .int .i64 0, .int .i64 0] [(0, 1, (.t 87)), (2, 1, (.t 88)), (11, 1, (.t 89))]⟩, ⟨some 91, (some (85, false)), .bs false 13 [.int .i64 0, .int .i64 0, .lit 1 [], .int .i64 0, .lit 1 [], .lit 1 [], .lit 1 [], .int .i64 0, .int .i64 0, .str ⟨#[]⟩, .int .i64 0, .int .i64 0, .int .i64 0] 2 [(0, (.t 86)), (1, (.t 90))]⟩, ⟨some 92, (some (85, false)), .bs false 1 [.lit 1 []] 2 [(0, (.t 91)), (1, (.k (.nils)))]⟩, ⟨some 93, (some (85, false)), .call false 19 [(.t 92)]⟩, ⟨some 94, (some (85, false)), .un .not (.t 93)⟩, ⟨some 95, none, .pk (.t 85) (.k (.bool true)) (.t 94)⟩, ⟨some 96, none, .mv (.t 95)⟩, ⟨some 97, (some (96, false)), .ld (some 13) (.t 11)⟩, ⟨some 98, (some (96, false)), .mv (.t 8)⟩, ⟨some 99, (some (96, false)), .mv (.t 10)⟩, ⟨some 100, (some (96, false)), .mv (.t 7)⟩, ⟨some 101, (some (96, false)), .bd [.int .i64 0, .int .i64 0, .lit 1 [], .int .i64 0, .lit 1 [], .lit 1 [], .lit 1 [], .int .i64 0, .int .i64 0, .str ⟨#[]⟩, .int .i64 0, .int .i64 0, .int .i64 0] [(0, 1, (.t 98)), (2, 1, (.t 99)), (10, 1, (.t 100)), (1, 1, (.k (.int .i64 1)))]⟩, ⟨some 102, (some (96, false)), .bs false 13 [.int .i64 0, .int .i64 0, .lit 1 [], .int .i64 0, .lit 1 [], .lit 1 [], .lit 1 [], .int .i64 0, .int .i64 0, .str ⟨#[]⟩, .int .i64 0, .int .i64 0, .int .i64 0] 2 [(0, (.t 97)), (1, (.t 101))]⟩, ⟨some 103, (some (96, false)), .bs false 1 [.lit 1 []] 1 [(0, (.t 102))]⟩, ⟨some 104, (some (96, false)), .call false 19 [(.t 103)]⟩, ⟨some 105, (some (96, false)), .un .not (.t 104)⟩, ⟨some 106, none, .pk (.t 96) (.k (.bool true)) (.t 105)⟩, ⟨some 107, none, .mv (.t 106)⟩, ⟨some 108, (some (107, false)), .ld (some 13) (.t 11)⟩, ⟨some 109, (some (107, false)), .mv (.t 8)⟩, ⟨some 110, (some (107, false)), .mv (.t 10)⟩, ⟨some 111, (some (107, false)), .mv (.t 7)⟩, ⟨some 112, (some (107, false)), .bd [.int .i64 0, .lit 1 [], .lit 1 [], .lit 1 [], .int .i64 0, .int .i64 0, .str ⟨#[]⟩] [(0, 1, (.t 111))]⟩, ⟨some 113, (some (107, false)), .bd [.int .i64 0, .int .i64 0, .lit 1 [], .int .i64 0, .lit 1 [], .lit 1 [], .lit 1 [], .int .i64 0, .int .i64 0, .str ⟨#[]⟩, .int .i64 0, .int .i64 0, .int .i64 0] [(0, 1, (.t 109)), (2, 1, (.t 110)), (1, 1, (.k (.int .i64 1))), (3, 7, (.t 112))]⟩, ⟨some 114, (some (107, false)), .bs false 13 [.int .i64 0, .int .i64 0, .lit 1 [], .int .i64 0, .lit 1 [], .lit 1 [], .lit 1 [], .int .i64 0, .int .i64 0, .str ⟨#[]⟩, .int .i64 0, .int .i64 0, .int .i64 0] 2 [(0, (.t 108)), (1, (.t 113))]⟩, ⟨some 115, (some (107, false)), .bs false 1 [.lit 1 []] 1 [(0, (.t 114))]⟩, ⟨some 116, (some (107, false)), .call false 19 [(.t 115)]⟩, ⟨some 117, (some (107, false)), .un .not (.t 116)⟩, ⟨some 118, none, .pk (.t 107) (.k (.bool true)) (.t 117)⟩])
          (.cond (.t 118)
           (.seq (.reg [⟨some 0, none, .mv (.k (.bool false))⟩])
           .ret)
           .skip)))))
         (.reg [⟨some 119, none, .bin .add 0 (.t 60) (.k (.int .i64 1))⟩, ⟨some 60, none, .mv (.t 119)⟩]))))))))
      (.reg [⟨some 54, none, .mv (.t 8)⟩, ⟨some 55, none, .bin .add 0 (.t 54) (.k (.int .i64 1))⟩, ⟨some 8, none, .mv (.t 55)⟩]))))))))
   (.reg [⟨some 120, none, .bin .add 0 (.t 48) (.k (.int .i64 1))⟩, ⟨some 48, none, .mv (.t 120)⟩])))))))
 (.seq (.reg [⟨some 121, none, .call false 19 [(.k (.nils))]⟩, ⟨some 122, none, .mv (.t 121)⟩, ⟨some 123, (some (122, true)), .ms 1 24 [.nils] (.k (.int .i64 9)) (.k (.int .i64 9))⟩, ⟨some 124, (some (122, true)), .call false 19 [(.t 123)]⟩, ⟨some 125, none, .pk (.t 122) (.t 124) (.k (.bool false))⟩, ⟨some 126, none, .mv (.t 125)⟩, ⟨some 127, (some (126, true)), .call true 21 []⟩, ⟨some 128, none, .pk (.t 126) (.t 127) (.k (.bool false))⟩, ⟨some 0, none, .mv (.t 128)⟩])
 .ret))))
/-! parquetry/parquetrylaw18.CodeTells -/
def c6 : C :=
 (.seq (.reg [⟨some 6, none, .mv (.k (.bool false))⟩])
 (.seq (.reg [⟨some 11, none, .mv (.t 0)⟩, ⟨some 12, none, .call false 17 [(.t 11)]⟩, ⟨some 10, none, .mv (.t 12)⟩, ⟨some 13, none, .ex (.t 10) 0⟩, ⟨some 14, none, .ex (.t 10) 1⟩, ⟨some 7, none, .mv (.t 13)⟩, ⟨some 8, none, .mv (.t 14)⟩])
 (.seq (.seq (.reg [⟨some 15, none, .mv (.t 2)⟩, ⟨some 16, none, .ln false (.t 15)⟩, ⟨some 17, none, .bin .gtr 0 (.t 16) (.k (.int .i64 9))⟩])
 (.cond (.t 17)
  (.reg [⟨some 18, none, .mv (.t 2)⟩, ⟨some 19, none, .sc 1 (.t 18) none (some (.k (.int .i64 9))) none⟩, ⟨some 2, none, .mv (.t 19)⟩])
  .skip))
 (.seq (.seq (.reg [⟨some 20, none, .mv (.t 2)⟩, ⟨some 21, none, .ln false (.t 20)⟩, ⟨some 22, none, .mv (.k (.int .i64 0))⟩])
 (.block 0
  (.loop
   (.seq (.reg [⟨some 23, none, .bin .lss 0 (.t 22) (.t 21)⟩])
   (.seq (.cond (.t 23)
    .skip
    (.exit 0))
   (.seq (.block 1
    (.seq (.reg [⟨some 24, none, .mv (.t 22)⟩, ⟨some 9, none, .mv (.t 24)⟩])
    (.seq (.reg [⟨some 25, none, .mv (.t 2)⟩, ⟨some 26, none, .mv (.t 9)⟩, ⟨some 27, none, .ia 1 (.t 25) (.t 26)⟩, ⟨some 28, none, .ld none (.t 27)⟩, ⟨some 29, none, .ln false (.t 28)⟩, ⟨some 30, none, .bin .gtr 0 (.t 29) (.k (.int .i64 20))⟩])
    (.cond (.t 30)
     (.seq (.reg [⟨some 31, none, .mv (.t 7)⟩, ⟨some 32, none, .call false 19 [(.t 31)]⟩, ⟨some 33, none, .mv (.t 32)⟩, ⟨some 34, (some (33, true)), .mv (.t 7)⟩, ⟨some 35, (some (33, true)), .mv (.t 1)⟩, ⟨some 36, (some (33, true)), .call false 20 [(.t 34), (.t 35)]⟩, ⟨some 37, (some (33, true)), .call false 19 [(.t 36)]⟩, ⟨some 38, none, .pk (.t 33) (.t 37) (.k (.bool false))⟩, ⟨some 39, none, .mv (.t 38)⟩, ⟨some 40, (some (39, true)), .call true 21 []⟩, ⟨some 41, none, .pk (.t 39) (.t 40) (.k (.bool false))⟩, ⟨some 6, none, .mv (.t 41)⟩])
     .ret)
     .skip))))
   (.reg [⟨some 42, none, .bin .add 0 (.t 22) (.k (.int .i64 1))⟩, ⟨some 22, none, .mv (.t 42)⟩])))))))
 (.seq (.reg [⟨some 43, none, .mv (.t 7)⟩, ⟨some 44, none, .call false 19 [(.t 43)]⟩, ⟨some 45, none, .mv (.t 44)⟩, ⟨some 46, (some (45, true)), .mv (.t 7)⟩, ⟨some 47, (some (45, true)), .mv (.t 1)⟩, ⟨some 48, (some (45, true)), .call false 20 [(.t 46), (.t 47)]⟩, ⟨some 49, (some (45, true)), .call false 19 [(.t 48)]⟩, ⟨some 50, none, .pk (.t 45) (.t 49) (.k (.bool false))⟩, ⟨some 51, none, .mv (.t 50)⟩, ⟨some 52, (some (51, true)), .mv (.t 2)⟩, ⟨some 53, (some (51, true)), .call false 19 [(.t 52)]⟩, ⟨some 54, none, .pk (.t 51) (.t 53) (.k (.bool false))⟩, ⟨some 55, none, .mv (.t 54)⟩, ⟨some 56, (some (55, true)), .call true 21 []⟩, ⟨some 57, none, .pk (.t 55) (.t 56) (.k (.bool false))⟩, ⟨some 6, none, .mv (.t 57)⟩])
 .ret)))))
/-! parquetry/parquetrylaw18.CodeMakes -/
def c7 : C :=
 (.seq (.reg [⟨some 4, none, .mv (.k (.bool false))⟩])
 (.seq (.reg [⟨some 13, none, .mv (.t 1)⟩, ⟨some 14, none, .bin .and 0 (.t 13) (.k (.int .i64 7))⟩, ⟨some 15, none, .bin .rem 0 (.t 14) (.k (.int .i64 4))⟩, ⟨some 16, none, .bin .add 0 (.k (.int .i64 1)) (.t 15)⟩, ⟨some 5, none, .mv (.t 16)⟩])
 (.seq (.reg [⟨some 17, none, .mv (.t 5)⟩, ⟨some 18, none, .call false 22 [(.t 17)]⟩, ⟨some 6, none, .mv (.t 18)⟩])
 (.seq (.seq (.reg [⟨some 19, none, .mv (.t 6)⟩, ⟨some 20, none, .bin .eql 2 (.t 19) (.k (.nilp))⟩])
 (.cond (.t 20)
  (.seq (.reg [⟨some 4, none, .mv (.k (.bool false))⟩])
  .ret)
  .skip))
 (.seq (.reg [⟨some 21, none, .mv (.t 5)⟩, ⟨some 22, none, .ms 1 24 [.nils] (.t 21) (.t 21)⟩, ⟨some 7, none, .mv (.t 22)⟩])
 (.seq (.reg [⟨some 23, none, .mv (.t 5)⟩, ⟨some 24, none, .ms 1 8 [.int .i64 0] (.t 23) (.t 23)⟩, ⟨some 8, none, .mv (.t 24)⟩])
 (.seq (.reg [⟨some 9, none, .mv (.k (.int .i64 0))⟩])
 (.seq (.seq (.reg [⟨some 10, none, .mv (.k (.int .i64 0))⟩])
 (.block 0
  (.loop
   (.seq (.seq (.reg [⟨some 25, none, .mv (.t 10)⟩, ⟨some 26, none, .mv (.t 0)⟩, ⟨some 27, none, .ln false (.t 26)⟩, ⟨some 28, none, .bin .lss 0 (.t 25) (.t 27)⟩, ⟨some 29, none, .mv (.t 28)⟩, ⟨some 30, (some (29, true)), .mv (.t 10)⟩, ⟨some 31, (some (29, true)), .bin .lss 0 (.t 30) (.k (.int .i64 60))⟩, ⟨some 32, none, .pk (.t 29) (.t 31) (.k (.bool false))⟩])
   (.cond (.t 32)
    .skip
    (.exit 0)))
   (.seq (.block 1
    (.seq (.reg [⟨some 35, none, .mv (.t 0)⟩, ⟨some 36, none, .mv (.t 10)⟩, ⟨some 37, none, .ia 1 (.t 35) (.t 36)⟩, ⟨some 38, none, .ld none (.t 37)⟩, ⟨some 39, none, .mv (.t 5)⟩, ⟨some 40, none, .bin .add 0 (.t 39) (.k (.int .i64 1))⟩, ⟨some 41, none, .bin .rem 0 (.t 38) (.t 40)⟩, ⟨some 42, none, .mv (.t 5)⟩, ⟨some 43, none, .bin .add 0 (.t 41) (.t 42)⟩, ⟨some 44, none, .bin .add 0 (.t 43) (.k (.int .i64 1))⟩, ⟨some 45, none, .mv (.t 5)⟩, ⟨some 46, none, .bin .add 0 (.t 45) (.k (.int .i64 1))⟩, ⟨some 47, none, .bin .rem 0 (.t 44) (.t 46)⟩, ⟨some 11, none, .mv (.t 47)⟩])
    (.seq (.seq (.reg [⟨some 48, none, .mv (.t 11)⟩, ⟨some 49, none, .mv (.t 5)⟩, ⟨some 50, none, .bin .eql 0 (.t 48) (.t 49)⟩])
    (.cond (.t 50)
     (.seq (.seq (.reg [⟨some 51, none, .mv (.t 6)⟩, ⟨some 52, none, .mv (.t 11)⟩, ⟨some 53, none, .call false 23 [(.t 51), (.t 52)]⟩, ⟨some 54, none, .bin .neq 0 (.t 53) (.k (.int .i64 (-1)))⟩, ⟨some 55, none, .mv (.t 54)⟩, ⟨some 56, (some (55, false)), .mv (.t 6)⟩, ⟨some 57, (some (55, false)), .mv (.t 11)⟩, ⟨some 58, (some (55, false)), .bd [.int .i64 0, .int .i64 0, .lit 1 [], .int .i64 0, .lit 1 [], .lit 1 [], .lit 1 [], .int .i64 0, .int .i64 0, .str ⟨#[]⟩, .int .i64 0, .int .i64 0, .int .i64 0] []⟩, ⟨some 59, (some (55, false)), .call false 24 [(.t 56), (.t 57), (.t 58)]⟩, ⟨some 60, (some (55, false)), .bin .neq 0 (.t 59) (.k (.int .i64 23))⟩, ⟨some 61, none, .pk (.t 55) (.k (.bool true)) (.t 60)⟩, ⟨some 62, none, .mv (.t 61)⟩, ⟨some 63, (some (62, false)), .mv (.t 6)⟩, ⟨some 64, (some (62, false)), .call false 25 [(.t 63)]⟩, ⟨some 65, (some (62, false)), .mv (.t 9)⟩, ⟨some 66, (some (62, false)), .bin .neq 0 (.t 64) (.t 65)⟩, ⟨some 67, none, .pk (.t 62) (.k (.bool true)) (.t 66)⟩])
     (.cond (.t 67)
      (.seq (.reg [⟨some 4, none, .mv (.k (.bool false))⟩])
      .ret)
      .skip))
     (.seq (.reg [⟨some 68, none, .mv (.t 9)⟩, ⟨some 69, none, .bin .add 0 (.t 68) (.k (.int .i64 1))⟩, ⟨some 9, none, .mv (.t 69)⟩])
     (.exit 1)))
     .skip))
    (.seq (.reg [⟨some 70, none, .mv (.t 6)⟩, ⟨some 71, none, .mv (.t 11)⟩, ⟨some 72, none, .call false 23 [(.t 70), (.t 71)]⟩, ⟨some 12, none, .mv (.t 72)⟩])
    (.seq (.seq (.reg [⟨some 73, none, .mv (.t 12)⟩, ⟨some 74, none, .mv (.t 8)⟩, ⟨some 75, none, .mv (.t 11)⟩, ⟨some 76, none, .ia 1 (.t 74) (.t 75)⟩, ⟨some 77, none, .ld none (.t 76)⟩, ⟨some 78, none, .bin .neq 0 (.t 73) (.t 77)⟩, ⟨some 79, none, .mv (.t 78)⟩, ⟨some 80, (some (79, false)), .mv (.t 6)⟩, ⟨some 81, (some (79, false)), .mv (.t 11)⟩, ⟨some 82, (some (79, false)), .mv (.t 12)⟩, ⟨some 83, (some (79, false)), .mv (.t 10)⟩, ⟨some 84, (some (79, false)), .bd [.int .i64 0, .int .i64 0, .lit 1 [], .int .i64 0, .lit 1 [], .lit 1 [], .lit 1 [], .int .i64 0, .int .i64 0, .str ⟨#[]⟩, .int .i64 0, .int .i64 0, .int .i64 0] [(0, 1, (.k (.int .i64 1))), (1, 1, (.t 82)), (10, 1, (.t 83))]⟩, ⟨some 85, (some (79, false)), .call false 24 [(.t 80), (.t 81), (.t 84)]⟩, ⟨some 86, (some (79, false)), .bin .neq 0 (.t 85) (.k (.int .i64 0))⟩, ⟨some 87, none, .pk (.t 79) (.k (.bool true)) (.t 86)⟩])
    (.cond (.t 87)
     (.seq (.reg [⟨some 4, none, .mv (.k (.bool false))⟩])
     .ret)
     .skip))
    (.seq (.reg [⟨some 88, none, .mv (.t 8)⟩, ⟨some 89, none, .mv (.t 11)⟩, ⟨some 90, none, .ia 1 (.t 88) (.t 89)⟩, ⟨some 91, none, .ld none (.t 90)⟩, ⟨some 92, none, .bin .add 0 (.t 91) (.k (.int .i64 1))⟩, ⟨some 93, none, .ia 1 (.t 88) (.t 89)⟩, ⟨none, none, .st 1 (.t 93) (.t 92)⟩])
    (.reg [⟨some 94, none, .mv (.t 7)⟩, ⟨some 95, none, .mv (.t 11)⟩, ⟨some 96, none, .mv (.t 7)⟩, ⟨some 97, none, .mv (.t 11)⟩, ⟨some 98, none, .ia 1 (.t 96) (.t 97)⟩, ⟨some 99, none, .ld none (.t 98)⟩, ⟨some 100, none, .mv (.t 12)⟩, ⟨some 101, none, .mv (.t 10)⟩, ⟨some 102, none, .bd [.int .i64 0, .int .i64 0, .lit 1 [], .int .i64 0, .lit 1 [], .lit 1 [], .lit 1 [], .int .i64 0, .int .i64 0, .str ⟨#[]⟩, .int .i64 0, .int .i64 0, .int .i64 0] [(0, 1, (.k (.int .i64 1))), (1, 1, (.t 100)), (10, 1, (.t 101))]⟩, ⟨some 103, none, .bs false 13 [.int .i64 0, .int .i64 0, .lit 1 [], .int .i64 0, .lit 1 [], .lit 1 [], .lit 1 [], .int .i64 0, .int .i64 0, .str ⟨#[]⟩, .int .i64 0, .int .i64 0, .int .i64 0] 1 [(0, (.t 102))]⟩, ⟨some 104, none, .ap 13 176 (.t 99) (.t 103)⟩, ⟨some 105, none, .ia 1 (.t 94) (.t 95)⟩, ⟨none, none, .st 1 (.t 105) (.t 104)⟩])))))))
   (.reg [⟨some 33, none, .mv (.t 10)⟩, ⟨some 34, none, .bin .add 0 (.t 33) (.k (.int .i64 1))⟩, ⟨some 10, none, .mv (.t 34)⟩]))))))
 (.seq (.reg [⟨some 106, none, .mv (.t 6)⟩, ⟨some 107, none, .call true 27 [(.t 106)]⟩, ⟨some 108, none, .mv (.t 7)⟩, ⟨some 109, none, .call true 26 [(.t 107), (.t 108)]⟩, ⟨some 110, none, .mv (.t 109)⟩, ⟨some 111, (some (110, true)), .mv (.t 6)⟩, ⟨some 112, (some (110, true)), .call true 28 [(.t 111)]⟩, ⟨some 113, (some (110, true)), .mv (.t 5)⟩, ⟨some 114, (some (110, true)), .bin .eql 0 (.t 112) (.t 113)⟩, ⟨some 115, none, .pk (.t 110) (.t 114) (.k (.bool false))⟩, ⟨some 116, none, .mv (.t 115)⟩, ⟨some 117, (some (116, true)), .call true 21 []⟩, ⟨some 118, none, .pk (.t 116) (.t 117) (.k (.bool false))⟩, ⟨some 4, none, .mv (.t 118)⟩])
 .ret)))))))))
/-! parquetry/parquetrylaw18.CodePairs -/
def c8 : C :=
 (.seq (.reg [⟨some 4, none, .mv (.k (.bool false))⟩])
 (.seq (.reg [⟨some 13, none, .mv (.t 0)⟩, ⟨some 14, none, .call false 17 [(.t 13)]⟩, ⟨some 12, none, .mv (.t 14)⟩, ⟨some 15, none, .ex (.t 12) 0⟩, ⟨some 16, none, .ex (.t 12) 1⟩, ⟨some 5, none, .mv (.t 15)⟩, ⟨some 6, none, .mv (.t 16)⟩])
 (.seq (.seq (.reg [⟨some 17, none, .mv (.t 5)⟩, ⟨some 18, none, .call true 29 [(.t 17)]⟩, ⟨some 19, none, .bin .neq 0 (.t 18) (.k (.int .i64 0))⟩, ⟨some 20, none, .mv (.t 19)⟩, ⟨some 21, (some (20, false)), .mv (.t 5)⟩, ⟨some 22, (some (20, false)), .call true 30 [(.t 21)]⟩, ⟨some 23, (some (20, false)), .bin .neq 0 (.t 22) (.k (.int .i64 0))⟩, ⟨some 24, none, .pk (.t 20) (.k (.bool true)) (.t 23)⟩])
 (.cond (.t 24)
  (.seq (.reg [⟨some 4, none, .mv (.k (.bool false))⟩])
  .ret)
  .skip))
 (.seq (.reg [⟨some 25, none, .mv (.t 1)⟩, ⟨some 26, none, .mv (.t 5)⟩, ⟨some 27, none, .ln false (.t 26)⟩, ⟨some 28, none, .bin .rem 0 (.t 25) (.t 27)⟩, ⟨some 29, none, .mv (.t 5)⟩, ⟨some 30, none, .ln false (.t 29)⟩, ⟨some 31, none, .bin .add 0 (.t 28) (.t 30)⟩, ⟨some 32, none, .mv (.t 5)⟩, ⟨some 33, none, .ln false (.t 32)⟩, ⟨some 34, none, .bin .rem 0 (.t 31) (.t 33)⟩, ⟨some 7, none, .mv (.t 34)⟩])
 (.seq (.seq (.reg [⟨some 35, none, .mv (.t 5)⟩, ⟨some 36, none, .mv (.t 7)⟩, ⟨some 37, none, .ia 1 (.t 35) (.t 36)⟩, ⟨some 38, none, .ld none (.t 37)⟩, ⟨some 39, none, .ln false (.t 38)⟩, ⟨some 40, none, .mv (.k (.int .i64 0))⟩])
 (.block 0
  (.loop
   (.seq (.reg [⟨some 41, none, .bin .lss 0 (.t 40) (.t 39)⟩])
   (.seq (.cond (.t 41)
    .skip
    (.exit 0))
   (.seq (.block 1
    (.seq (.reg [⟨some 42, none, .mv (.t 40)⟩, ⟨some 43, none, .ia 13 (.t 38) (.t 40)⟩, ⟨some 44, none, .ld (some 13) (.t 43)⟩, ⟨some 9, none, .al [.int .i64 0, .int .i64 0, .lit 1 [], .int .i64 0, .lit 1 [], .lit 1 [], .lit 1 [], .int .i64 0, .int .i64 0, .str ⟨#[]⟩, .int .i64 0, .int .i64 0, .int .i64 0]⟩, ⟨some 8, none, .mv (.t 42)⟩, ⟨none, none, .st 13 (.t 9) (.t 44)⟩])
    (.seq (.seq (.reg [⟨some 45, none, .fa 0 (.t 9)⟩, ⟨some 46, none, .ld none (.t 45)⟩, ⟨some 47, none, .bin .neq 0 (.t 46) (.k (.int .i64 3))⟩])
    (.cond (.t 47)
     (.exit 1)
     .skip))
    (.seq (.reg [⟨some 48, none, .bs false 1 [.lit 1 []] 0 []⟩, ⟨some 49, none, .mv (.t 5)⟩, ⟨some 50, none, .ap 1 24 (.t 48) (.t 49)⟩, ⟨some 10, none, .mv (.t 50)⟩])
    (.seq (.dr [[], [], [], [], [], [3, 4], [5, 3, 4], [], [6, 7, 5, 3, 4], [2, 8, 6, 7, 5, 3, 4], [], [], [10, 11], [12, 10, 11], [], [14], [13, 15, 12, 10, 11, 14], [9, 16, 2, 8, 6, 7, 5, 3, 4, 13, 15, 12, 10, 11, 14], [0, 1, 2, 3, 4, 5, 6, 7, 8, 9, 10, 11, 12, 13, 14, 15, 16, 17], [18, 17, 0, 1, 2, 3, 4, 5, 6, 7, 8, 9, 10, 11, 12, 13, 14, 15, 16]] [⟨some 51, none, .mv (.t 10)⟩, ⟨some 52, none, .mv (.t 7)⟩, ⟨some 53, none, .bs false 13 [.int .i64 0, .int .i64 0, .lit 1 [], .int .i64 0, .lit 1 [], .lit 1 [], .lit 1 [], .int .i64 0, .int .i64 0, .str ⟨#[]⟩, .int .i64 0, .int .i64 0, .int .i64 0] 0 []⟩, ⟨some 54, none, .mv (.t 5)⟩, ⟨some 55, none, .mv (.t 7)⟩, ⟨some 56, none, .ia 1 (.t 54) (.t 55)⟩, ⟨some 57, none, .ld none (.t 56)⟩, ⟨some 58, none, .mv (.t 8)⟩, ⟨some 59, none, .sc 13 (.t 57) none (some (.t 58)) none⟩, ⟨some 60, none, .ap 13 176 (.t 53) (.t 59)⟩, ⟨some 61, none, .mv (.t 5)⟩, ⟨some 62, none, .mv (.t 7)⟩, ⟨some 63, none, .ia 1 (.t 61) (.t 62)⟩, ⟨some 64, none, .ld none (.t 63)⟩, ⟨some 65, none, .mv (.t 8)⟩, ⟨some 66, none, .bin .add 0 (.t 65) (.k (.int .i64 1))⟩, ⟨some 67, none, .sc 13 (.t 64) (some (.t 66)) none none⟩, ⟨some 68, none, .ap 13 176 (.t 60) (.t 67)⟩, ⟨some 69, none, .ia 1 (.t 51) (.t 52)⟩, ⟨none, none, .st 1 (.t 69) (.t 68)⟩])
    (.seq (.reg [⟨some 70, none, .bs false 1 [.lit 1 []] 0 []⟩, ⟨some 71, none, .mv (.t 5)⟩, ⟨some 72, none, .ap 1 24 (.t 70) (.t 71)⟩, ⟨some 11, none, .mv (.t 72)⟩])
    (.seq (.dr [[], [], [], [], [], [3, 4], [5, 3, 4], [2, 6, 5, 3, 4], [], [8], [7, 9, 2, 6, 5, 3, 4, 8], [0, 1, 2, 3, 4, 5, 6, 7, 8, 9, 10], [11, 10, 0, 1, 2, 3, 4, 5, 6, 7, 8, 9]] [⟨some 73, none, .mv (.t 11)⟩, ⟨some 74, none, .mv (.t 7)⟩, ⟨some 75, none, .bs false 13 [.int .i64 0, .int .i64 0, .lit 1 [], .int .i64 0, .lit 1 [], .lit 1 [], .lit 1 [], .int .i64 0, .int .i64 0, .str ⟨#[]⟩, .int .i64 0, .int .i64 0, .int .i64 0] 0 []⟩, ⟨some 76, none, .mv (.t 5)⟩, ⟨some 77, none, .mv (.t 7)⟩, ⟨some 78, none, .ia 1 (.t 76) (.t 77)⟩, ⟨some 79, none, .ld none (.t 78)⟩, ⟨some 80, none, .ap 13 176 (.t 75) (.t 79)⟩, ⟨some 81, none, .ld (some 13) (.t 9)⟩, ⟨some 82, none, .bs false 13 [.int .i64 0, .int .i64 0, .lit 1 [], .int .i64 0, .lit 1 [], .lit 1 [], .lit 1 [], .int .i64 0, .int .i64 0, .str ⟨#[]⟩, .int .i64 0, .int .i64 0, .int .i64 0] 1 [(0, (.t 81))]⟩, ⟨some 83, none, .ap 13 176 (.t 80) (.t 82)⟩, ⟨some 84, none, .ia 1 (.t 73) (.t 74)⟩, ⟨none, none, .st 1 (.t 84) (.t 83)⟩])
    (.seq (.reg [⟨some 85, none, .mv (.t 10)⟩, ⟨some 86, none, .call true 29 [(.t 85)]⟩, ⟨some 87, none, .bin .neq 0 (.t 86) (.k (.int .i64 22))⟩, ⟨some 88, none, .mv (.t 87)⟩, ⟨some 89, (some (88, false)), .mv (.t 11)⟩, ⟨some 90, (some (88, false)), .call true 29 [(.t 89)]⟩, ⟨some 91, (some (88, false)), .bin .neq 0 (.t 90) (.k (.int .i64 25))⟩, ⟨some 92, none, .pk (.t 88) (.k (.bool true)) (.t 91)⟩, ⟨some 93, none, .mv (.t 92)⟩, ⟨some 94, (some (93, false)), .mv (.t 11)⟩, ⟨some 95, (some (93, false)), .call true 31 [(.t 94)]⟩, ⟨some 96, (some (93, false)), .mv (.t 5)⟩, ⟨some 97, (some (93, false)), .call true 31 [(.t 96)]⟩, ⟨some 98, (some (93, false)), .bin .add 0 (.t 97) (.k (.int .i64 1))⟩, ⟨some 99, (some (93, false)), .bin .neq 0 (.t 95) (.t 98)⟩, ⟨some 100, none, .pk (.t 93) (.k (.bool true)) (.t 99)⟩, ⟨some 101, none, .mv (.t 100)⟩, ⟨some 102, (some (101, false)), .mv (.t 10)⟩, ⟨some 103, (some (101, false)), .call true 32 [(.t 102)]⟩, ⟨some 104, (some (101, false)), .mv (.t 5)⟩, ⟨some 105, (some (101, false)), .call true 32 [(.t 104)]⟩, ⟨some 106, (some (101, false)), .bin .sub 0 (.t 105) (.k (.int .i64 1))⟩, ⟨some 107, (some (101, false)), .bin .neq 0 (.t 103) (.t 106)⟩, ⟨some 108, none, .pk (.t 101) (.k (.bool true)) (.t 107)⟩])
    (.cond (.t 108)
     (.seq (.reg [⟨some 4, none, .mv (.k (.bool false))⟩])
     .ret)
     .skip)))))))))
   (.reg [⟨some 109, none, .bin .add 0 (.t 40) (.k (.int .i64 1))⟩, ⟨some 40, none, .mv (.t 109)⟩])))))))
 (.seq (.reg [⟨some 110, none, .call true 21 []⟩, ⟨some 4, none, .mv (.t 110)⟩])
 .ret))))))
/-! parquetry/parquetrykeep.Programs -/
def c17 : C :=
 (.seq (.reg [⟨some 2, none, .mv (.k (.nils))⟩, ⟨some 3, none, .mv (.k (.nils))⟩])
 (.seq (.reg [⟨some 10, none, .mv (.t 0)⟩, ⟨some 11, none, .bd [.nils, .int .i64 0] [(0, 1, (.t 10))]⟩, ⟨some 12, none, .bx (.t 11)⟩, ⟨some 4, none, .mv (.t 12)⟩])
 (.seq (.reg [⟨some 13, none, .mv (.t 4)⟩, ⟨some 14, none, .call false 53 [(.t 13), (.k (.int .i64 4))]⟩, ⟨some 15, none, .bin .add 0 (.k (.int .i64 1)) (.t 14)⟩, ⟨some 5, none, .mv (.t 15)⟩])
 (.seq (.dr2 [[], [0], [], [2, 1, 0], [1, 3, 0, 2], [4, 1, 3, 0, 2], [5, 0, 1, 2, 3, 4]] [⟨some 16, none, .mv (.t 5)⟩, ⟨some 17, none, .ms 1 24 [.nils] (.t 16) (.t 16)⟩, ⟨some 18, none, .mv (.t 5)⟩, ⟨some 19, none, .ms 1 24 [.nils] (.t 18) (.t 18)⟩, ⟨some 20, none, .bd [.nils, .nils, .nils, .int .i64 0] [(0, 1, (.t 17)), (1, 1, (.t 19))]⟩, ⟨some 21, none, .bx (.t 20)⟩, ⟨some 6, none, .mv (.t 21)⟩] [[], [0], [], [2, 1, 0], [3, 1, 2, 0], [4, 3, 1, 2, 0], [5, 2, 3, 0, 1, 4]] [⟨some 18, none, .mv (.t 5)⟩, ⟨some 19, none, .ms 1 24 [.nils] (.t 18) (.t 18)⟩, ⟨some 16, none, .mv (.t 5)⟩, ⟨some 17, none, .ms 1 24 [.nils] (.t 16) (.t 16)⟩, ⟨some 20, none, .bd [.nils, .nils, .nils, .int .i64 0] [(0, 1, (.t 17)), (1, 1, (.t 19))]⟩, ⟨some 21, none, .bx (.t 20)⟩, ⟨some 6, none, .mv (.t 21)⟩])
 (.seq (.reg [⟨some 22, none, .mv (.t 5)⟩, ⟨some 23, none, .ms 1 24 [.nils] (.t 22) (.t 22)⟩, ⟨some 7, none, .mv (.t 23)⟩])
 (.seq (.seq (.reg [⟨some 24, none, .mv (.t 4)⟩, ⟨some 25, none, .call false 53 [(.t 24), (.k (.int .i64 24))]⟩, ⟨some 26, none, .bin .add 0 (.k (.int .i64 4)) (.t 25)⟩, ⟨some 8, none, .mv (.t 26)⟩])
 (.block 0
  (.loop
   (.seq (.seq (.reg [⟨some 27, none, .mv (.t 8)⟩, ⟨some 28, none, .bin .gtr 0 (.t 27) (.k (.int .i64 0))⟩])
   (.cond (.t 28)
    .skip
    (.exit 0)))
   (.seq (.block 1
    (.seq (.reg [⟨some 31, none, .mv (.t 4)⟩, ⟨some 32, none, .mv (.t 5)⟩, ⟨some 33, none, .call false 53 [(.t 31), (.t 32)]⟩, ⟨some 9, none, .mv (.t 33)⟩])
    (.reg [⟨some 34, none, .mv (.t 6)⟩, ⟨some 35, none, .mv (.t 4)⟩, ⟨some 36, none, .mv (.t 9)⟩, ⟨some 37, none, .mv (.t 7)⟩, ⟨some 38, none, .mv (.t 9)⟩, ⟨some 39, none, .ia 1 (.t 37) (.t 38)⟩, ⟨some 40, none, .call false 55 [(.t 34), (.t 35), (.t 36), (.t 39)]⟩])))
   (.reg [⟨some 29, none, .mv (.t 8)⟩, ⟨some 30, none, .bin .sub 0 (.t 29) (.k (.int .i64 1))⟩, ⟨some 8, none, .mv (.t 30)⟩]))))))
 (.seq (.block 2
  (.loop
   (.seq (.seq (.reg [⟨some 41, none, .mv (.t 6)⟩, ⟨some 42, none, .nc (.t 41)⟩, ⟨some 43, none, .fa 2 (.t 42)⟩, ⟨some 44, none, .ld none (.t 43)⟩, ⟨some 45, none, .ln false (.t 44)⟩, ⟨some 46, none, .bin .gtr 0 (.t 45) (.k (.int .i64 0))⟩])
   (.cond (.t 46)
    .skip
    (.exit 2)))
   (.block 3
    (.reg [⟨some 47, none, .mv (.t 6)⟩, ⟨some 48, none, .mv (.t 4)⟩, ⟨some 49, none, .mv (.t 6)⟩, ⟨some 50, none, .nc (.t 49)⟩, ⟨some 51, none, .fa 2 (.t 50)⟩, ⟨some 52, none, .ld none (.t 51)⟩, ⟨some 53, none, .ln false (.t 52)⟩, ⟨some 54, none, .call false 53 [(.t 48), (.t 53)]⟩, ⟨some 55, none, .call false 56 [(.t 47), (.t 54)]⟩])))))
 (.seq (.reg [⟨some 56, none, .mv (.t 6)⟩, ⟨some 57, none, .nc (.t 56)⟩, ⟨some 58, none, .fa 0 (.t 57)⟩, ⟨some 59, none, .ld none (.t 58)⟩, ⟨some 60, none, .mv (.t 7)⟩, ⟨some 2, none, .mv (.t 59)⟩, ⟨some 3, none, .mv (.t 60)⟩])
 .ret))))))))
/-! parquetry/parquetrylaw18.tape -/
def c18 : C :=
 (.seq (.reg [⟨some 2, none, .mv (.k (.nils))⟩])
 (.seq (.reg [⟨some 3, none, .mv (.k (.nils))⟩])
 (.seq (.seq (.reg [⟨some 4, none, .mv (.k (.int .i64 0))⟩])
 (.block 0
  (.loop
   (.seq (.seq (.reg [⟨some 5, none, .mv (.t 4)⟩, ⟨some 6, none, .bin .lss 0 (.t 5) (.k (.int .i64 150))⟩])
   (.cond (.t 6)
    .skip
    (.exit 0)))
   (.seq (.block 1
    (.reg [⟨some 9, none, .mv (.t 3)⟩, ⟨some 10, none, .mv (.t 4)⟩, ⟨some 11, none, .mv (.t 4)⟩, ⟨some 12, none, .bin .mul 0 (.t 10) (.t 11)⟩, ⟨some 13, none, .bin .mul 0 (.t 12) (.k (.int .i64 7))⟩, ⟨some 14, none, .mv (.t 0)⟩, ⟨some 15, none, .bin .mul 0 (.t 14) (.k (.int .i64 43))⟩, ⟨some 16, none, .bin .add 0 (.t 13) (.t 15)⟩, ⟨some 17, none, .mv (.t 4)⟩, ⟨some 18, none, .mv (.t 0)⟩, ⟨some 19, none, .bin .mul 0 (.t 17) (.t 18)⟩, ⟨some 20, none, .bin .add 0 (.t 16) (.t 19)⟩, ⟨some 21, none, .bin .rem 0 (.t 20) (.k (.int .i64 211))⟩, ⟨some 22, none, .bs false 1 [.int .i64 0] 1 [(0, (.t 21))]⟩, ⟨some 23, none, .ap 1 8 (.t 9) (.t 22)⟩, ⟨some 3, none, .mv (.t 23)⟩]))
   (.reg [⟨some 7, none, .mv (.t 4)⟩, ⟨some 8, none, .bin .add 0 (.t 7) (.k (.int .i64 1))⟩, ⟨some 4, none, .mv (.t 8)⟩]))))))
 (.seq (.reg [⟨some 24, none, .mv (.t 3)⟩, ⟨some 2, none, .mv (.t 24)⟩])
 .ret))))
/-! parquetry/parquetrylaw18.same -/
def c19 : C :=
 (.seq (.reg [⟨some 2, none, .mv (.k (.bool false))⟩])
 (.seq (.reg [⟨some 3, none, .mv (.k (.int .i64 0))⟩, ⟨some 4, none, .mv (.k (.int .i64 0))⟩])
 (.seq (.seq (.reg [⟨some 8, none, .mv (.t 0)⟩, ⟨some 9, none, .ln false (.t 8)⟩, ⟨some 10, none, .mv (.k (.int .i64 0))⟩])
 (.block 0
  (.loop
   (.seq (.reg [⟨some 11, none, .bin .lss 0 (.t 10) (.t 9)⟩])
   (.seq (.cond (.t 11)
    .skip
    (.exit 0))
   (.seq (.block 1
    (.seq (.reg [⟨some 12, none, .mv (.t 10)⟩, ⟨some 5, none, .mv (.t 12)⟩])
    (.seq (.reg [⟨some 13, none, .mv (.t 3)⟩, ⟨some 14, none, .mv (.t 0)⟩, ⟨some 15, none, .mv (.t 5)⟩, ⟨some 16, none, .ia 1 (.t 14) (.t 15)⟩, ⟨some 17, none, .ld none (.t 16)⟩, ⟨some 18, none, .ln false (.t 17)⟩, ⟨some 19, none, .bin .add 0 (.t 13) (.t 18)⟩, ⟨some 3, none, .mv (.t 19)⟩])
    (.seq (.reg [⟨some 20, none, .mv (.t 0)⟩, ⟨some 21, none, .mv (.t 5)⟩, ⟨some 22, none, .ia 1 (.t 20) (.t 21)⟩, ⟨some 23, none, .ld none (.t 22)⟩, ⟨some 24, none, .ln false (.t 23)⟩, ⟨some 25, none, .mv (.k (.int .i64 0))⟩])
    (.block 2
     (.loop
      (.seq (.reg [⟨some 26, none, .bin .lss 0 (.t 25) (.t 24)⟩])
      (.seq (.cond (.t 26)
       .skip
       (.exit 2))
      (.seq (.block 3
       (.seq (.reg [⟨some 27, none, .ia 13 (.t 23) (.t 25)⟩, ⟨some 28, none, .ld (some 13) (.t 27)⟩, ⟨some 7, none, .al [.int .i64 0, .int .i64 0, .lit 1 [], .int .i64 0, .lit 1 [], .lit 1 [], .lit 1 [], .int .i64 0, .int .i64 0, .str ⟨#[]⟩, .int .i64 0, .int .i64 0, .int .i64 0]⟩, ⟨none, none, .st 13 (.t 7) (.t 28)⟩])
       (.seq (.reg [⟨some 29, none, .fa 0 (.t 7)⟩, ⟨some 30, none, .ld none (.t 29)⟩, ⟨some 31, none, .bin .eql 0 (.t 30) (.k (.int .i64 3))⟩])
       (.cond (.t 31)
        (.reg [⟨some 32, none, .mv (.t 4)⟩, ⟨some 33, none, .bin .add 0 (.t 32) (.k (.int .i64 1))⟩, ⟨some 4, none, .mv (.t 33)⟩])
        .skip))))
      (.reg [⟨some 34, none, .bin .add 0 (.t 25) (.k (.int .i64 1))⟩, ⟨some 25, none, .mv (.t 34)⟩]))))))))))
   (.reg [⟨some 35, none, .bin .add 0 (.t 10) (.k (.int .i64 1))⟩, ⟨some 10, none, .mv (.t 35)⟩])))))))
 (.seq (.reg [⟨some 36, none, .mv (.t 0)⟩, ⟨some 37, none, .call true 30 [(.t 36)]⟩, ⟨some 38, none, .mv (.t 0)⟩, ⟨some 39, none, .call true 57 [(.t 38)]⟩, ⟨some 40, none, .bin .eql 0 (.t 37) (.t 39)⟩, ⟨some 41, none, .mv (.t 40)⟩, ⟨some 42, (some (41, true)), .mv (.t 0)⟩, ⟨some 43, (some (41, true)), .call true 29 [(.t 42)]⟩, ⟨some 44, (some (41, true)), .mv (.t 0)⟩, ⟨some 45, (some (41, true)), .call true 58 [(.t 44)]⟩, ⟨some 46, (some (41, true)), .bin .eql 0 (.t 43) (.t 45)⟩, ⟨some 47, none, .pk (.t 41) (.t 46) (.k (.bool false))⟩, ⟨some 48, none, .mv (.t 47)⟩, ⟨some 49, (some (48, true)), .mv (.t 0)⟩, ⟨some 50, (some (48, true)), .call true 32 [(.t 49)]⟩, ⟨some 51, (some (48, true)), .mv (.t 3)⟩, ⟨some 52, (some (48, true)), .bin .eql 0 (.t 50) (.t 51)⟩, ⟨some 53, none, .pk (.t 48) (.t 52) (.k (.bool false))⟩, ⟨some 54, none, .mv (.t 53)⟩, ⟨some 55, (some (54, true)), .mv (.t 0)⟩, ⟨some 56, (some (54, true)), .call true 31 [(.t 55)]⟩, ⟨some 57, (some (54, true)), .mv (.t 4)⟩, ⟨some 58, (some (54, true)), .bin .eql 0 (.t 56) (.t 57)⟩, ⟨some 59, none, .pk (.t 54) (.t 58) (.k (.bool false))⟩, ⟨some 2, none, .mv (.t 59)⟩])
 .ret))))
/-! parquetry/parquetrykeep.Bent -/
def c20 : C :=
 (.seq (.reg [⟨some 4, none, .mv (.k (.nils))⟩])
 (.seq (.seq (.reg [⟨some 5, none, .mv (.k (.int .i64 0))⟩])
 (.block 0
  (.loop
   (.seq (.seq (.reg [⟨some 6, none, .mv (.t 5)⟩, ⟨some 7, none, .mv (.t 1)⟩, ⟨some 8, none, .ln false (.t 7)⟩, ⟨some 9, none, .bin .lss 0 (.t 6) (.t 8)⟩, ⟨some 10, none, .mv (.t 9)⟩, ⟨some 11, (some (10, true)), .mv (.t 5)⟩, ⟨some 12, (some (10, true)), .bin .lss 0 (.t 11) (.k (.int .i64 3))⟩, ⟨some 13, none, .pk (.t 10) (.t 12) (.k (.bool false))⟩])
   (.cond (.t 13)
    .skip
    (.exit 0)))
   (.seq (.block 1
    (.reg [⟨some 16, none, .mv (.t 0)⟩, ⟨some 17, none, .mv (.t 1)⟩, ⟨some 18, none, .mv (.t 5)⟩, ⟨some 19, none, .ia 4 (.t 17) (.t 18)⟩, ⟨some 20, none, .ld (some 4) (.t 19)⟩, ⟨some 21, none, .call false 59 [(.t 16), (.t 20)]⟩, ⟨some 0, none, .mv (.t 21)⟩]))
   (.reg [⟨some 14, none, .mv (.t 5)⟩, ⟨some 15, none, .bin .add 0 (.t 14) (.k (.int .i64 1))⟩, ⟨some 5, none, .mv (.t 15)⟩]))))))
 (.seq (.reg [⟨some 22, none, .mv (.t 0)⟩, ⟨some 4, none, .mv (.t 22)⟩])
 .ret)))
/-! parquetry/parquetrylaw18.known -/
/-! parquetry/code.New -/
def c22 : C :=
 (.seq (.reg [⟨some 2, none, .mv (.k (.nilp))⟩])
 (.seq (.seq (.reg [⟨some 3, none, .mv (.t 0)⟩, ⟨some 4, none, .bin .lss 0 (.t 3) (.k (.int .i64 1))⟩, ⟨some 5, none, .mv (.t 4)⟩, ⟨some 6, (some (5, false)), .mv (.t 0)⟩, ⟨some 7, (some (5, false)), .bin .gtr 0 (.t 6) (.k (.int .i64 8))⟩, ⟨some 8, none, .pk (.t 5) (.k (.bool true)) (.t 7)⟩])
 (.cond (.t 8)
  (.seq (.reg [⟨some 2, none, .mv (.k (.nilp))⟩])
  .ret)
  .skip))
 (.seq (.dr2 [[], [0], [], [2, 1, 0], [1, 3, 0, 2], [4, 1, 3, 0, 2], [5, 0, 1, 2, 3, 4]] [⟨some 9, none, .mv (.t 0)⟩, ⟨some 10, none, .ms 1 24 [.nils] (.t 9) (.t 9)⟩, ⟨some 11, none, .mv (.t 0)⟩, ⟨some 12, none, .ms 1 8 [.int .i64 0] (.t 11) (.t 11)⟩, ⟨some 13, none, .bd [.nils, .nils, .int .i64 0] [(0, 1, (.t 10)), (1, 1, (.t 12))]⟩, ⟨some 14, none, .bx (.t 13)⟩, ⟨some 2, none, .mv (.t 14)⟩] [[], [0], [], [2, 1, 0], [3, 1, 2, 0], [4, 3, 1, 2, 0], [5, 2, 3, 0, 1, 4]] [⟨some 11, none, .mv (.t 0)⟩, ⟨some 12, none, .ms 1 8 [.int .i64 0] (.t 11) (.t 11)⟩, ⟨some 9, none, .mv (.t 0)⟩, ⟨some 10, none, .ms 1 24 [.nils] (.t 9) (.t 9)⟩, ⟨some 13, none, .bd [.nils, .nils, .int .i64 0] [(0, 1, (.t 10)), (1, 1, (.t 12))]⟩, ⟨some 14, none, .bx (.t 13)⟩, ⟨some 2, none, .mv (.t 14)⟩])
 .ret)))
set_option maxRecDepth 100000 in
theorem er22 : (Try.f22.body.bind (erC Try.prog cfg 15)) = some c22 := by kernel_rfl
theorem in22 {args : List AV} {σ : St} {Q : AV → St → Prop} (hlen : args.length ≤ 15) (h : σ.Wf → (∀ i, i < args.length → Hab (args.getD i .undef)) → SWP Try.prog σ.next c22 (retQ σ.next [.t 2] Q) (fun i => args.getD i .undef) σ) : TQ Try.prog 22 args σ Q := by
 obtain ⟨k, hb, hk⟩ := Option.bind_eq_some_iff.1 er22
 exact TQ_of (fn := Try.f22) Try.func22 (by kernel_rfl) hb (erC_is mixed hk) (by kernel_rfl) hlen h

/-! (*parquetry/code.Maker).Fresh -/
def c23 : C :=
 (.seq (.reg [⟨some 4, none, .mv (.k (.int .i64 0))⟩])
 (.seq (.seq (.reg [⟨some 5, none, .mv (.t 0)⟩, ⟨some 6, none, .mv (.t 1)⟩, ⟨some 7, none, .call true 60 [(.t 5), (.t 6)]⟩, ⟨some 8, none, .un .not (.t 7)⟩])
 (.cond (.t 8)
  (.seq (.reg [⟨some 4, none, .mv (.k (.int .i64 (-1)))⟩])
  .ret)
  .skip))
 (.seq (.reg [⟨some 9, none, .mv (.t 0)⟩, ⟨some 10, none, .nc (.t 9)⟩, ⟨some 11, none, .fa 1 (.t 10)⟩, ⟨some 12, none, .ld none (.t 11)⟩, ⟨some 13, none, .mv (.t 1)⟩, ⟨some 14, none, .ia 1 (.t 12) (.t 13)⟩, ⟨some 15, none, .ld none (.t 14)⟩, ⟨some 16, none, .bin .add 0 (.t 15) (.k (.int .i64 1))⟩, ⟨some 17, none, .ia 1 (.t 12) (.t 13)⟩, ⟨none, none, .st 1 (.t 17) (.t 16)⟩])
 (.seq (.reg [⟨some 18, none, .mv (.t 0)⟩, ⟨some 19, none, .nc (.t 18)⟩, ⟨some 20, none, .fa 1 (.t 19)⟩, ⟨some 21, none, .ld none (.t 20)⟩, ⟨some 22, none, .mv (.t 1)⟩, ⟨some 23, none, .ia 1 (.t 21) (.t 22)⟩, ⟨some 24, none, .ld none (.t 23)⟩, ⟨some 25, none, .bin .sub 0 (.t 24) (.k (.int .i64 1))⟩, ⟨some 4, none, .mv (.t 25)⟩])
 .ret))))
set_option maxRecDepth 100000 in
theorem er23 : (Try.f23.body.bind (erC Try.prog cfg 26)) = some c23 := by kernel_rfl
theorem in23 {args : List AV} {σ : St} {Q : AV → St → Prop} (hlen : args.length ≤ 26) (h : σ.Wf → (∀ i, i < args.length → Hab (args.getD i .undef)) → SWP Try.prog σ.next c23 (retQ σ.next [.t 4] Q) (fun i => args.getD i .undef) σ) : TQ Try.prog 23 args σ Q := by
 obtain ⟨k, hb, hk⟩ := Option.bind_eq_some_iff.1 er23
 exact TQ_of (fn := Try.f23) Try.func23 (by kernel_rfl) hb (erC_is mixed hk) (by kernel_rfl) hlen h

/-! (*parquetry/code.Maker).Put -/
def c24 : C :=
 (.seq (.reg [⟨some 5, none, .bx (.t 2)⟩, ⟨some 6, none, .mv (.k (.int .i64 0))⟩])
 (.seq (.block 0
  (.seq (.reg [⟨some 8, none, .mv (.t 0)⟩, ⟨some 9, none, .mv (.t 1)⟩, ⟨some 10, none, .call true 60 [(.t 8), (.t 9)]⟩, ⟨some 11, none, .un .not (.t 10)⟩, ⟨some 7, none, .mv (.t 11)⟩])
  (.cond (.t 7)
   (.seq (.reg [⟨some 6, none, .mv (.k (.int .i64 23))⟩])
   .ret)
   (.seq (.reg [⟨some 13, none, .mv (.t 0)⟩, ⟨some 14, none, .mv (.t 1)⟩, ⟨some 15, none, .call true 61 [(.t 13), (.t 14)]⟩, ⟨some 16, none, .bin .lss 0 (.t 15) (.k (.int .i64 1))⟩, ⟨some 12, none, .mv (.t 16)⟩])
   (.cond (.t 12)
    (.seq (.reg [⟨some 6, none, .mv (.k (.int .i64 3))⟩])
    .ret)
    .skip)))))
 (.seq (.dr [[], [0], [1, 0], [2, 1, 0], [], [], [5], [6, 5], [7, 6, 5], [], [8, 9, 7, 6, 5], [10, 8, 9, 7, 6, 5], [], [12], [13, 12], [11, 14, 13, 10, 8, 9, 7, 6, 5, 12], [3, 4, 0, 1, 2, 5, 6, 7, 8, 9, 10, 11, 12, 13, 14, 15], [16, 15, 0, 1, 2, 3, 4, 5, 6, 7, 8, 9, 10, 11, 12, 13, 14]] [⟨some 17, none, .mv (.t 0)⟩, ⟨some 18, none, .nc (.t 17)⟩, ⟨some 19, none, .fa 0 (.t 18)⟩, ⟨some 20, none, .ld none (.t 19)⟩, ⟨some 21, none, .mv (.t 1)⟩, ⟨some 22, none, .mv (.t 0)⟩, ⟨some 23, none, .nc (.t 22)⟩, ⟨some 24, none, .fa 0 (.t 23)⟩, ⟨some 25, none, .ld none (.t 24)⟩, ⟨some 26, none, .mv (.t 1)⟩, ⟨some 27, none, .ia 1 (.t 25) (.t 26)⟩, ⟨some 28, none, .ld none (.t 27)⟩, ⟨some 29, none, .ld (some 13) (.t 5)⟩, ⟨some 30, none, .call true 62 [(.t 29)]⟩, ⟨some 31, none, .bs false 13 [.int .i64 0, .int .i64 0, .lit 1 [], .int .i64 0, .lit 1 [], .lit 1 [], .lit 1 [], .int .i64 0, .int .i64 0, .str ⟨#[]⟩, .int .i64 0, .int .i64 0, .int .i64 0] 1 [(0, (.t 30))]⟩, ⟨some 32, none, .ap 13 176 (.t 28) (.t 31)⟩, ⟨some 33, none, .ia 1 (.t 20) (.t 21)⟩, ⟨none, none, .st 1 (.t 33) (.t 32)⟩])
 (.seq (.reg [⟨some 6, none, .mv (.k (.int .i64 0))⟩])
 .ret))))
set_option maxRecDepth 100000 in
theorem er24 : (Try.f24.body.bind (erC Try.prog cfg 34)) = some c24 := by kernel_rfl
theorem in24 {args : List AV} {σ : St} {Q : AV → St → Prop} (hlen : args.length ≤ 34) (h : σ.Wf → (∀ i, i < args.length → Hab (args.getD i .undef)) → SWP Try.prog σ.next c24 (retQ σ.next [.t 6] Q) (fun i => args.getD i .undef) σ) : TQ Try.prog 24 args σ Q := by
 obtain ⟨k, hb, hk⟩ := Option.bind_eq_some_iff.1 er24
 exact TQ_of (fn := Try.f24) Try.func24 (by kernel_rfl) hb (erC_is mixed hk) (by kernel_rfl) hlen h

/-! (*parquetry/code.Maker).Tag -/
def c25 : C :=
 (.seq (.reg [⟨some 2, none, .mv (.k (.int .i64 0))⟩])
 (.seq (.reg [⟨some 3, none, .mv (.t 0)⟩, ⟨some 4, none, .nc (.t 3)⟩, ⟨some 5, none, .fa 2 (.t 4)⟩, ⟨some 6, none, .ld none (.t 5)⟩, ⟨some 7, none, .bin .add 0 (.t 6) (.k (.int .i64 1))⟩, ⟨some 8, none, .nc (.t 3)⟩, ⟨some 9, none, .fa 2 (.t 8)⟩, ⟨none, none, .st 1 (.t 9) (.t 7)⟩])
 (.seq (.reg [⟨some 10, none, .mv (.t 0)⟩, ⟨some 11, none, .nc (.t 10)⟩, ⟨some 12, none, .fa 2 (.t 11)⟩, ⟨some 13, none, .ld none (.t 12)⟩, ⟨some 14, none, .bin .sub 0 (.t 13) (.k (.int .i64 1))⟩, ⟨some 2, none, .mv (.t 14)⟩])
 .ret)))
set_option maxRecDepth 100000 in
theorem er25 : (Try.f25.body.bind (erC Try.prog cfg 15)) = some c25 := by kernel_rfl
theorem in25 {args : List AV} {σ : St} {Q : AV → St → Prop} (hlen : args.length ≤ 15) (h : σ.Wf → (∀ i, i < args.length → Hab (args.getD i .undef)) → SWP Try.prog σ.next c25 (retQ σ.next [.t 2] Q) (fun i => args.getD i .undef) σ) : TQ Try.prog 25 args σ Q := by
 obtain ⟨k, hb, hk⟩ := Option.bind_eq_some_iff.1 er25
 exact TQ_of (fn := Try.f25) Try.func25 (by kernel_rfl) hb (erC_is mixed hk) (by kernel_rfl) hlen h

/-! parquetry/parquetrykeep.Same -/
/-! (*parquetry/code.Maker).Programs -/
def c27 : C :=
 (.seq (.reg [⟨some 2, none, .mv (.k (.nils))⟩])
 (.seq (.reg [⟨some 3, none, .mv (.t 0)⟩, ⟨some 4, none, .nc (.t 3)⟩, ⟨some 5, none, .fa 0 (.t 4)⟩, ⟨some 6, none, .ld none (.t 5)⟩, ⟨some 7, none, .call true 64 [(.t 6)]⟩, ⟨some 2, none, .mv (.t 7)⟩])
 .ret))
set_option maxRecDepth 100000 in
theorem er27 : (Try.f27.body.bind (erC Try.prog cfg 8)) = some c27 := by kernel_rfl
theorem in27 {args : List AV} {σ : St} {Q : AV → St → Prop} (hlen : args.length ≤ 8) (h : σ.Wf → (∀ i, i < args.length → Hab (args.getD i .undef)) → SWP Try.prog σ.next c27 (retQ σ.next [.t 2] Q) (fun i => args.getD i .undef) σ) : TQ Try.prog 27 args σ Q := by
 obtain ⟨k, hb, hk⟩ := Option.bind_eq_some_iff.1 er27
 exact TQ_of (fn := Try.f27) Try.func27 (by kernel_rfl) hb (erC_is mixed hk) (by kernel_rfl) hlen h

/-! (*parquetry/code.Maker).Devices -/
def c28 : C :=
 (.seq (.reg [⟨some 2, none, .mv (.k (.int .i64 0))⟩])
 (.seq (.reg [⟨some 3, none, .mv (.t 0)⟩, ⟨some 4, none, .nc (.t 3)⟩, ⟨some 5, none, .fa 0 (.t 4)⟩, ⟨some 6, none, .ld none (.t 5)⟩, ⟨some 7, none, .ln false (.t 6)⟩, ⟨some 2, none, .mv (.t 7)⟩])
 .ret))
set_option maxRecDepth 100000 in
theorem er28 : (Try.f28.body.bind (erC Try.prog cfg 8)) = some c28 := by kernel_rfl
theorem in28 {args : List AV} {σ : St} {Q : AV → St → Prop} (hlen : args.length ≤ 8) (h : σ.Wf → (∀ i, i < args.length → Hab (args.getD i .undef)) → SWP Try.prog σ.next c28 (retQ σ.next [.t 2] Q) (fun i => args.getD i .undef) σ) : TQ Try.prog 28 args σ Q := by
 obtain ⟨k, hb, hk⟩ := Option.bind_eq_some_iff.1 er28
 exact TQ_of (fn := Try.f28) Try.func28 (by kernel_rfl) hb (erC_is mixed hk) (by kernel_rfl) hlen h

/-! parquetry/code.Pairs -/
/-! parquetry/code.Right -/
/-! parquetry/code.Sends -/
/-! parquetry/code.Count -/
/-! parquetry/parquetrybook.Within -/
def c36 : C :=
 (.seq (.reg [⟨some 6, none, .mv (.k (.int .i64 0))⟩])
 (.seq (.seq (.reg [⟨some 7, none, .mv (.t 0)⟩, ⟨some 8, none, .mv (.t 1)⟩, ⟨some 9, none, .bin .geq 0 (.t 7) (.t 8)⟩, ⟨some 10, none, .mv (.t 9)⟩, ⟨some 11, (some (10, true)), .mv (.t 0)⟩, ⟨some 12, (some (10, true)), .mv (.t 2)⟩, ⟨some 13, (some (10, true)), .bin .leq 0 (.t 11) (.t 12)⟩, ⟨some 14, none, .pk (.t 10) (.t 13) (.k (.bool false))⟩])
 (.cond (.t 14)
  (.seq (.reg [⟨some 15, none, .mv (.t 0)⟩, ⟨some 6, none, .mv (.t 15)⟩])
  .ret)
  .skip))
 (.seq (.reg [⟨some 16, none, .mv (.t 0)⟩, ⟨some 17, none, .mv (.t 2)⟩, ⟨some 18, none, .mv (.t 1)⟩, ⟨some 19, none, .bin .sub 0 (.t 17) (.t 18)⟩, ⟨some 20, none, .bin .add 0 (.t 19) (.k (.int .i64 1))⟩, ⟨some 21, none, .bin .rem 0 (.t 16) (.t 20)⟩, ⟨some 0, none, .mv (.t 21)⟩])
 (.seq (.seq (.reg [⟨some 22, none, .mv (.t 0)⟩, ⟨some 23, none, .bin .lss 0 (.t 22) (.k (.int .i64 0))⟩])
 (.cond (.t 23)
  (.reg [⟨some 24, none, .mv (.t 0)⟩, ⟨some 25, none, .mv (.t 2)⟩, ⟨some 26, none, .bin .add 0 (.t 24) (.t 25)⟩, ⟨some 27, none, .mv (.t 1)⟩, ⟨some 28, none, .bin .sub 0 (.t 26) (.t 27)⟩, ⟨some 29, none, .bin .add 0 (.t 28) (.k (.int .i64 1))⟩, ⟨some 0, none, .mv (.t 29)⟩])
  .skip))
 (.seq (.reg [⟨some 30, none, .mv (.t 1)⟩, ⟨some 31, none, .mv (.t 0)⟩, ⟨some 32, none, .bin .add 0 (.t 30) (.t 31)⟩, ⟨some 6, none, .mv (.t 32)⟩])
 .ret)))))
set_option maxRecDepth 100000 in
theorem er36 : (Try.f36.body.bind (erC Try.prog cfg 33)) = some c36 := by kernel_rfl
theorem in36 {args : List AV} {σ : St} {Q : AV → St → Prop} (hlen : args.length ≤ 33) (h : σ.Wf → (∀ i, i < args.length → Hab (args.getD i .undef)) → SWP Try.prog σ.next c36 (retQ σ.next [.t 6] Q) (fun i => args.getD i .undef) σ) : TQ Try.prog 36 args σ Q := by
 obtain ⟨k, hb, hk⟩ := Option.bind_eq_some_iff.1 er36
 exact TQ_of (fn := Try.f36) Try.func36 (by kernel_rfl) hb (erC_is mixed hk) (by kernel_rfl) hlen h

/-! parquetry/parquetryref1.Same -/
def c44 : C :=
 (.seq (.reg [⟨some 2, none, .bx (.t 0)⟩, ⟨some 3, none, .bx (.t 1)⟩, ⟨some 4, none, .mv (.k (.bool false))⟩])
 (.seq (.seq (.reg [⟨some 6, none, .fa 0 (.t 2)⟩, ⟨some 7, none, .ld none (.t 6)⟩, ⟨some 8, none, .fa 0 (.t 3)⟩, ⟨some 9, none, .ld none (.t 8)⟩, ⟨some 10, none, .call true 63 [(.t 7), (.t 9)]⟩, ⟨some 11, none, .un .not (.t 10)⟩, ⟨some 12, none, .mv (.t 11)⟩, ⟨some 13, (some (12, false)), .fa 1 (.t 2)⟩, ⟨some 14, (some (12, false)), .ld none (.t 13)⟩, ⟨some 15, (some (12, false)), .ln false (.t 14)⟩, ⟨some 16, (some (12, false)), .fa 1 (.t 3)⟩, ⟨some 17, (some (12, false)), .ld none (.t 16)⟩, ⟨some 18, (some (12, false)), .ln false (.t 17)⟩, ⟨some 19, (some (12, false)), .bin .neq 0 (.t 15) (.t 18)⟩, ⟨some 20, none, .pk (.t 12) (.k (.bool true)) (.t 19)⟩])
 (.cond (.t 20)
  (.seq (.reg [⟨some 4, none, .mv (.k (.bool false))⟩])
  .ret)
  .skip))
 (.seq (.seq (.reg [⟨some 5, none, .mv (.k (.int .i64 0))⟩])
 (.block 0
  (.loop
   (.seq (.seq (.reg [⟨some 21, none, .mv (.t 5)⟩, ⟨some 22, none, .fa 1 (.t 2)⟩, ⟨some 23, none, .ld none (.t 22)⟩, ⟨some 24, none, .ln false (.t 23)⟩, ⟨some 25, none, .bin .lss 0 (.t 21) (.t 24)⟩])
   (.cond (.t 25)
    .skip
    (.exit 0)))
   (.seq (.block 1
    (.seq (.drs [⟨some 28, none, .fa 1 (.t 2)⟩, ⟨some 29, none, .ld none (.t 28)⟩, ⟨some 30, none, .mv (.t 5)⟩, ⟨some 31, none, .ia 1 (.t 29) (.t 30)⟩, ⟨some 32, none, .ld none (.t 31)⟩, ⟨some 33, none, .fa 1 (.t 3)⟩, ⟨some 34, none, .ld none (.t 33)⟩, ⟨some 35, none, .mv (.t 5)⟩, ⟨some 36, none, .ia 1 (.t 34) (.t 35)⟩, ⟨some 37, none, .ld none (.t 36)⟩, ⟨some 38, none, .bin .neq 0 (.t 32) (.t 37)⟩])
    (.cond (.t 38)
     (.seq (.reg [⟨some 4, none, .mv (.k (.bool false))⟩])
     .ret)
     .skip)))
   (.reg [⟨some 26, none, .mv (.t 5)⟩, ⟨some 27, none, .bin .add 0 (.t 26) (.k (.int .i64 1))⟩, ⟨some 5, none, .mv (.t 27)⟩]))))))
 (.seq (.reg [⟨some 4, none, .mv (.k (.bool true))⟩])
 .ret))))
set_option maxRecDepth 100000 in
theorem er44 : (Try.f44.body.bind (erC Try.prog cfg 39)) = some c44 := by kernel_rfl
theorem in44 {args : List AV} {σ : St} {Q : AV → St → Prop} (hlen : args.length ≤ 39) (h : σ.Wf → (∀ i, i < args.length → Hab (args.getD i .undef)) → SWP Try.prog σ.next c44 (retQ σ.next [.t 4] Q) (fun i => args.getD i .undef) σ) : TQ Try.prog 44 args σ Q := by
 obtain ⟨k, hb, hk⟩ := Option.bind_eq_some_iff.1 er44
 exact TQ_of (fn := Try.f44) Try.func44 (by kernel_rfl) hb (erC_is mixed hk) (by kernel_rfl) hlen h

/-! parquetry/parquetryref1.Fill -/
def c48 : C :=
 (.seq (.reg [⟨some 4, none, .al [.nils, .nils]⟩])
 (.seq (.reg [⟨some 7, none, .bs false 1 [.int .i64 0] 0 []⟩, ⟨some 8, none, .mv (.t 0)⟩, ⟨some 9, none, .ap 1 8 (.t 7) (.t 8)⟩, ⟨some 10, none, .bd [.nils, .nils] [(0, 1, (.t 9))]⟩, ⟨some 5, none, .al [.nils, .nils]⟩, ⟨none, none, .st 2 (.t 5) (.t 10)⟩])
 (.seq (.seq (.reg [⟨some 6, none, .mv (.k (.int .i64 0))⟩])
 (.block 0
  (.loop
   (.seq (.seq (.reg [⟨some 11, none, .mv (.t 6)⟩, ⟨some 12, none, .mv (.t 0)⟩, ⟨some 13, none, .call true 91 [(.t 12)]⟩, ⟨some 14, none, .bin .lss 0 (.t 11) (.t 13)⟩])
   (.cond (.t 14)
    .skip
    (.exit 0)))
   (.seq (.block 1
    (.reg [⟨some 17, none, .fa 1 (.t 5)⟩, ⟨some 18, none, .ld none (.t 17)⟩, ⟨some 19, none, .mv (.t 1)⟩, ⟨some 20, none, .bs false 1 [.int .i64 0] 1 [(0, (.t 19))]⟩, ⟨some 21, none, .ap 1 8 (.t 18) (.t 20)⟩, ⟨some 22, none, .fa 1 (.t 5)⟩, ⟨none, none, .st 1 (.t 22) (.t 21)⟩]))
   (.reg [⟨some 15, none, .mv (.t 6)⟩, ⟨some 16, none, .bin .add 0 (.t 15) (.k (.int .i64 1))⟩, ⟨some 6, none, .mv (.t 16)⟩]))))))
 (.seq (.reg [⟨some 23, none, .ld (some 2) (.t 5)⟩, ⟨none, none, .st 2 (.t 4) (.t 23)⟩])
 .ret))))
set_option maxRecDepth 100000 in
theorem er48 : (Try.f48.body.bind (erC Try.prog ({ cfg with data := fun _ => false }) 24)) = some c48 := by kernel_rfl
theorem in48 {args : List AV} {σ : St} {Q : AV → St → Prop} (hlen : args.length ≤ 24) (h : σ.Wf → (∀ i, i < args.length → Hab (args.getD i .undef)) → SWP Try.prog σ.next c48 (retQ σ.next [.c (some 2) 4] Q) (fun i => args.getD i .undef) σ) : TQ Try.prog 48 args σ Q := by
 obtain ⟨k, hb, hk⟩ := Option.bind_eq_some_iff.1 er48
 exact TQ_of (fn := Try.f48) Try.func48 (by kernel_rfl) hb (erC_is mixed hk) (by kernel_rfl) hlen h

/-! (*parquetry/parquetrykeep.Tape).Next -/
def c53 : C :=
 (.seq (.reg [⟨some 4, none, .mv (.k (.int .i64 0))⟩])
 (.seq (.seq (.drs [⟨some 5, none, .mv (.t 0)⟩, ⟨some 6, none, .nc (.t 5)⟩, ⟨some 7, none, .fa 1 (.t 6)⟩, ⟨some 8, none, .ld none (.t 7)⟩, ⟨some 9, none, .mv (.t 0)⟩, ⟨some 10, none, .nc (.t 9)⟩, ⟨some 11, none, .fa 0 (.t 10)⟩, ⟨some 12, none, .ld none (.t 11)⟩, ⟨some 13, none, .ln false (.t 12)⟩, ⟨some 14, none, .bin .geq 0 (.t 8) (.t 13)⟩, ⟨some 15, none, .mv (.t 14)⟩, ⟨some 16, (some (15, false)), .mv (.t 1)⟩, ⟨some 17, (some (15, false)), .bin .lss 0 (.t 16) (.k (.int .i64 1))⟩, ⟨some 18, none, .pk (.t 15) (.k (.bool true)) (.t 17)⟩])
 (.cond (.t 18)
  (.seq (.reg [⟨some 4, none, .mv (.k (.int .i64 0))⟩])
  .ret)
  .skip))
 (.seq (.reg [⟨some 19, none, .mv (.t 0)⟩, ⟨some 20, none, .nc (.t 19)⟩, ⟨some 21, none, .fa 1 (.t 20)⟩, ⟨some 22, none, .ld none (.t 21)⟩, ⟨some 23, none, .bin .add 0 (.t 22) (.k (.int .i64 1))⟩, ⟨some 24, none, .nc (.t 19)⟩, ⟨some 25, none, .fa 1 (.t 24)⟩, ⟨none, none, .st 1 (.t 25) (.t 23)⟩])
 (.seq (.drs [⟨some 26, none, .mv (.t 0)⟩, ⟨some 27, none, .nc (.t 26)⟩, ⟨some 28, none, .fa 0 (.t 27)⟩, ⟨some 29, none, .ld none (.t 28)⟩, ⟨some 30, none, .mv (.t 0)⟩, ⟨some 31, none, .nc (.t 30)⟩, ⟨some 32, none, .fa 1 (.t 31)⟩, ⟨some 33, none, .ld none (.t 32)⟩, ⟨some 34, none, .bin .sub 0 (.t 33) (.k (.int .i64 1))⟩, ⟨some 35, none, .ia 1 (.t 29) (.t 34)⟩, ⟨some 36, none, .ld none (.t 35)⟩, ⟨some 37, none, .call true 36 [(.t 36), (.k (.int .i64 0)), (.k (.int .i64 1073741824))]⟩, ⟨some 38, none, .mv (.t 1)⟩, ⟨some 39, none, .bin .rem 0 (.t 37) (.t 38)⟩, ⟨some 4, none, .mv (.t 39)⟩])
 .ret))))
set_option maxRecDepth 100000 in
theorem er53 : (Try.f53.body.bind (erC Try.prog cfg 40)) = some c53 := by kernel_rfl
theorem in53 {args : List AV} {σ : St} {Q : AV → St → Prop} (hlen : args.length ≤ 40) (h : σ.Wf → (∀ i, i < args.length → Hab (args.getD i .undef)) → SWP Try.prog σ.next c53 (retQ σ.next [.t 4] Q) (fun i => args.getD i .undef) σ) : TQ Try.prog 53 args σ Q := by
 obtain ⟨k, hb, hk⟩ := Option.bind_eq_some_iff.1 er53
 exact TQ_of (fn := Try.f53) Try.func53 (by kernel_rfl) hb (erC_is mixed hk) (by kernel_rfl) hlen h

/-! (*parquetry/parquetrykeep.maker).step -/
/-! (*parquetry/parquetrykeep.maker).recv -/
/-! parquetry/parquetryref18.Right -/
def c57 : C :=
 (.seq (.reg [⟨some 2, none, .mv (.k (.int .i64 0))⟩])
 (.seq (.seq (.reg [⟨some 6, none, .mv (.t 0)⟩, ⟨some 7, none, .ln false (.t 6)⟩, ⟨some 8, none, .bin .lss 0 (.t 7) (.k (.int .i64 1))⟩, ⟨some 9, none, .mv (.t 8)⟩, ⟨some 10, (some (9, false)), .mv (.t 0)⟩, ⟨some 11, (some (9, false)), .ln false (.t 10)⟩, ⟨some 12, (some (9, false)), .bin .gtr 0 (.t 11) (.k (.int .i64 8))⟩, ⟨some 13, none, .pk (.t 9) (.k (.bool true)) (.t 12)⟩])
 (.cond (.t 13)
  (.seq (.reg [⟨some 2, none, .mv (.k (.int .i64 15))⟩])
  .ret)
  .skip))
 (.seq (.seq (.reg [⟨some 14, none, .mv (.t 0)⟩, ⟨some 15, none, .ln false (.t 14)⟩, ⟨some 16, none, .mv (.k (.int .i64 0))⟩])
 (.block 0
  (.loop
   (.seq (.reg [⟨some 17, none, .bin .lss 0 (.t 16) (.t 15)⟩])
   (.seq (.cond (.t 17)
    .skip
    (.exit 0))
   (.seq (.block 1
    (.seq (.reg [⟨some 18, none, .mv (.t 16)⟩, ⟨some 3, none, .mv (.t 18)⟩])
    (.seq (.reg [⟨some 19, none, .mv (.t 0)⟩, ⟨some 20, none, .mv (.t 3)⟩, ⟨some 21, none, .ia 1 (.t 19) (.t 20)⟩, ⟨some 22, none, .ld none (.t 21)⟩, ⟨some 23, none, .ln false (.t 22)⟩, ⟨some 24, none, .bin .gtr 0 (.t 23) (.k (.int .i64 65536))⟩])
    (.cond (.t 24)
     (.seq (.reg [⟨some 2, none, .mv (.k (.int .i64 3))⟩])
     .ret)
     .skip))))
   (.reg [⟨some 25, none, .bin .add 0 (.t 16) (.k (.int .i64 1))⟩, ⟨some 16, none, .mv (.t 25)⟩])))))))
 (.seq (.seq (.reg [⟨some 26, none, .mv (.t 0)⟩, ⟨some 27, none, .ln false (.t 26)⟩, ⟨some 28, none, .mv (.k (.int .i64 0))⟩])
 (.block 2
  (.loop
   (.seq (.reg [⟨some 29, none, .bin .lss 0 (.t 28) (.t 27)⟩])
   (.seq (.cond (.t 29)
    .skip
    (.exit 2))
   (.seq (.block 3
    (.seq (.reg [⟨some 30, none, .mv (.t 28)⟩, ⟨some 4, none, .mv (.t 30)⟩])
    (.seq (.reg [⟨some 31, none, .mv (.t 0)⟩, ⟨some 32, none, .mv (.t 4)⟩, ⟨some 33, none, .ia 1 (.t 31) (.t 32)⟩, ⟨some 34, none, .ld none (.t 33)⟩, ⟨some 35, none, .ln false (.t 34)⟩, ⟨some 36, none, .mv (.k (.int .i64 0))⟩])
    (.block 4
     (.loop
      (.seq (.reg [⟨some 37, none, .bin .lss 0 (.t 36) (.t 35)⟩])
      (.seq (.cond (.t 37)
       .skip
       (.exit 4))
      (.seq (.block 5
       (.seq (.reg [⟨some 38, none, .mv (.t 36)⟩, ⟨some 5, none, .mv (.t 38)⟩])
       (.seq (.seq (.reg [⟨some 39, none, .mv (.t 0)⟩, ⟨some 40, none, .mv (.t 4)⟩, ⟨some 41, none, .ia 1 (.t 39) (.t 40)⟩, ⟨some 42, none, .ld none (.t 41)⟩, ⟨some 43, none, .mv (.t 5)⟩, ⟨some 44, none, .ia 13 (.t 42) (.t 43)⟩, ⟨some 45, none, .ld (some 13) (.t 44)⟩, ⟨some 46, none, .call true 98 [(.t 45)]⟩, ⟨some 47, none, .un .not (.t 46)⟩])
       (.cond (.t 47)
        (.seq (.reg [⟨some 2, none, .mv (.k (.int .i64 1))⟩])
        .ret)
        .skip))
       (.seq (.reg [⟨some 48, none, .mv (.t 0)⟩, ⟨some 49, none, .mv (.t 4)⟩, ⟨some 50, none, .ia 1 (.t 48) (.t 49)⟩, ⟨some 51, none, .ld none (.t 50)⟩, ⟨some 52, none, .mv (.t 5)⟩, ⟨some 53, none, .mv (.t 0)⟩, ⟨some 54, none, .ln false (.t 53)⟩, ⟨some 55, none, .call true 99 [(.t 51), (.t 52), (.t 54)]⟩, ⟨some 56, none, .un .not (.t 55)⟩])
       (.cond (.t 56)
        (.seq (.reg [⟨some 2, none, .mv (.k (.int .i64 23))⟩])
        .ret)
        .skip)))))
      (.reg [⟨some 57, none, .bin .add 0 (.t 36) (.k (.int .i64 1))⟩, ⟨some 36, none, .mv (.t 57)⟩])))))))))
   (.reg [⟨some 58, none, .bin .add 0 (.t 28) (.k (.int .i64 1))⟩, ⟨some 28, none, .mv (.t 58)⟩])))))))
 (.seq (.reg [⟨some 2, none, .mv (.k (.int .i64 0))⟩])
 .ret)))))
set_option maxRecDepth 100000 in
theorem er57 : (Try.f57.body.bind (erC Try.prog cfg 59)) = some c57 := by kernel_rfl
theorem in57 {args : List AV} {σ : St} {Q : AV → St → Prop} (hlen : args.length ≤ 59) (h : σ.Wf → (∀ i, i < args.length → Hab (args.getD i .undef)) → SWP Try.prog σ.next c57 (retQ σ.next [.t 2] Q) (fun i => args.getD i .undef) σ) : TQ Try.prog 57 args σ Q := by
 obtain ⟨k, hb, hk⟩ := Option.bind_eq_some_iff.1 er57
 exact TQ_of (fn := Try.f57) Try.func57 (by kernel_rfl) hb (erC_is mixed hk) (by kernel_rfl) hlen h

/-! parquetry/parquetryref18.Pairs -/
def c58 : C :=
 (.seq (.reg [⟨some 2, none, .mv (.k (.int .i64 0))⟩])
 (.seq (.seq (.reg [⟨some 10, none, .mv (.t 0)⟩, ⟨some 11, none, .call true 57 [(.t 10)]⟩, ⟨some 3, none, .mv (.t 11)⟩])
 (.seq (.reg [⟨some 12, none, .mv (.t 3)⟩, ⟨some 13, none, .bin .neq 0 (.t 12) (.k (.int .i64 0))⟩])
 (.cond (.t 13)
  (.seq (.reg [⟨some 14, none, .mv (.t 3)⟩, ⟨some 2, none, .mv (.t 14)⟩])
  .ret)
  .skip)))
 (.seq (.seq (.reg [⟨some 15, none, .mv (.t 0)⟩, ⟨some 16, none, .ln false (.t 15)⟩, ⟨some 17, none, .mv (.k (.int .i64 0))⟩])
 (.block 0
  (.loop
   (.seq (.reg [⟨some 18, none, .bin .lss 0 (.t 17) (.t 16)⟩])
   (.seq (.cond (.t 18)
    .skip
    (.exit 0))
   (.seq (.block 1
    (.seq (.reg [⟨some 19, none, .mv (.t 17)⟩, ⟨some 4, none, .mv (.t 19)⟩])
    (.seq (.reg [⟨some 20, none, .mv (.t 0)⟩, ⟨some 21, none, .mv (.t 4)⟩, ⟨some 22, none, .ia 1 (.t 20) (.t 21)⟩, ⟨some 23, none, .ld none (.t 22)⟩, ⟨some 24, none, .ln false (.t 23)⟩, ⟨some 25, none, .mv (.k (.int .i64 0))⟩])
    (.block 2
     (.loop
      (.seq (.reg [⟨some 26, none, .bin .lss 0 (.t 25) (.t 24)⟩])
      (.seq (.cond (.t 26)
       .skip
       (.exit 2))
      (.seq (.block 3
       (.seq (.reg [⟨some 27, none, .ia 13 (.t 23) (.t 25)⟩, ⟨some 28, none, .ld (some 13) (.t 27)⟩, ⟨some 6, none, .al [.int .i64 0, .int .i64 0, .lit 1 [], .int .i64 0, .lit 1 [], .lit 1 [], .lit 1 [], .int .i64 0, .int .i64 0, .str ⟨#[]⟩, .int .i64 0, .int .i64 0, .int .i64 0]⟩, ⟨none, none, .st 13 (.t 6) (.t 28)⟩])
       (.seq (.drs [⟨some 29, none, .fa 0 (.t 6)⟩, ⟨some 30, none, .ld none (.t 29)⟩, ⟨some 31, none, .bin .eql 0 (.t 30) (.k (.int .i64 3))⟩, ⟨some 32, none, .mv (.t 31)⟩, ⟨some 33, (some (32, false)), .fa 0 (.t 6)⟩, ⟨some 34, (some (32, false)), .ld none (.t 33)⟩, ⟨some 35, (some (32, false)), .bin .eql 0 (.t 34) (.k (.int .i64 4))⟩, ⟨some 36, none, .pk (.t 32) (.k (.bool true)) (.t 35)⟩, ⟨some 37, none, .mv (.t 36)⟩, ⟨some 38, (some (37, true)), .mv (.t 0)⟩, ⟨some 39, (some (37, true)), .mv (.t 4)⟩, ⟨some 40, (some (37, true)), .ia 1 (.t 38) (.t 39)⟩, ⟨some 41, (some (37, true)), .ld none (.t 40)⟩, ⟨some 42, (some (37, true)), .fa 0 (.t 6)⟩, ⟨some 43, (some (37, true)), .ld none (.t 42)⟩, ⟨some 44, (some (37, true)), .fa 11 (.t 6)⟩, ⟨some 45, (some (37, true)), .ld none (.t 44)⟩, ⟨some 46, (some (37, true)), .fa 12 (.t 6)⟩, ⟨some 47, (some (37, true)), .ld none (.t 46)⟩, ⟨some 48, (some (37, true)), .call true 100 [(.t 41), (.t 43), (.t 45), (.t 47)]⟩, ⟨some 49, (some (37, true)), .bin .gtr 0 (.t 48) (.k (.int .i64 1))⟩, ⟨some 50, none, .pk (.t 37) (.t 49) (.k (.bool false))⟩])
       (.cond (.t 50)
        (.seq (.reg [⟨some 2, none, .mv (.k (.int .i64 25))⟩])
        .ret)
        .skip))))
      (.reg [⟨some 51, none, .bin .add 0 (.t 25) (.k (.int .i64 1))⟩, ⟨some 25, none, .mv (.t 51)⟩])))))))))
   (.reg [⟨some 52, none, .bin .add 0 (.t 17) (.k (.int .i64 1))⟩, ⟨some 17, none, .mv (.t 52)⟩])))))))
 (.seq (.seq (.reg [⟨some 53, none, .mv (.t 0)⟩, ⟨some 54, none, .ln false (.t 53)⟩, ⟨some 55, none, .mv (.k (.int .i64 0))⟩])
 (.block 4
  (.loop
   (.seq (.reg [⟨some 56, none, .bin .lss 0 (.t 55) (.t 54)⟩])
   (.seq (.cond (.t 56)
    .skip
    (.exit 4))
   (.seq (.block 5
    (.seq (.reg [⟨some 57, none, .mv (.t 55)⟩, ⟨some 7, none, .mv (.t 57)⟩])
    (.seq (.reg [⟨some 58, none, .mv (.t 0)⟩, ⟨some 59, none, .mv (.t 7)⟩, ⟨some 60, none, .ia 1 (.t 58) (.t 59)⟩, ⟨some 61, none, .ld none (.t 60)⟩, ⟨some 62, none, .ln false (.t 61)⟩, ⟨some 63, none, .mv (.k (.int .i64 0))⟩])
    (.block 6
     (.loop
      (.seq (.reg [⟨some 64, none, .bin .lss 0 (.t 63) (.t 62)⟩])
      (.seq (.cond (.t 64)
       .skip
       (.exit 6))
      (.seq (.block 7
       (.seq (.reg [⟨some 65, none, .ia 13 (.t 61) (.t 63)⟩, ⟨some 66, none, .ld (some 13) (.t 65)⟩, ⟨some 9, none, .al [.int .i64 0, .int .i64 0, .lit 1 [], .int .i64 0, .lit 1 [], .lit 1 [], .lit 1 [], .int .i64 0, .int .i64 0, .str ⟨#[]⟩, .int .i64 0, .int .i64 0, .int .i64 0]⟩, ⟨none, none, .st 13 (.t 9) (.t 66)⟩])
       (.seq (.drs [⟨some 67, none, .fa 0 (.t 9)⟩, ⟨some 68, none, .ld none (.t 67)⟩, ⟨some 69, none, .bin .eql 0 (.t 68) (.k (.int .i64 3))⟩, ⟨some 70, none, .mv (.t 69)⟩, ⟨some 71, (some (70, true)), .mv (.t 0)⟩, ⟨some 72, (some (70, true)), .fa 11 (.t 9)⟩, ⟨some 73, (some (70, true)), .ld none (.t 72)⟩, ⟨some 74, (some (70, true)), .ia 1 (.t 71) (.t 73)⟩, ⟨some 75, (some (70, true)), .ld none (.t 74)⟩, ⟨some 76, (some (70, true)), .mv (.t 7)⟩, ⟨some 77, (some (70, true)), .fa 12 (.t 9)⟩, ⟨some 78, (some (70, true)), .ld none (.t 77)⟩, ⟨some 79, (some (70, true)), .call true 100 [(.t 75), (.k (.int .i64 4)), (.t 76), (.t 78)]⟩, ⟨some 80, (some (70, true)), .bin .neq 0 (.t 79) (.k (.int .i64 1))⟩, ⟨some 81, none, .pk (.t 70) (.t 80) (.k (.bool false))⟩, ⟨some 82, none, .mv (.t 81)⟩, ⟨some 83, (some (82, false)), .fa 0 (.t 9)⟩, ⟨some 84, (some (82, false)), .ld none (.t 83)⟩, ⟨some 85, (some (82, false)), .bin .eql 0 (.t 84) (.k (.int .i64 4))⟩, ⟨some 86, (some (82, false)), .mv (.t 85)⟩, ⟨some 87, (some (86, true)), .mv (.t 0)⟩, ⟨some 88, (some (86, true)), .fa 11 (.t 9)⟩, ⟨some 89, (some (86, true)), .ld none (.t 88)⟩, ⟨some 90, (some (86, true)), .ia 1 (.t 87) (.t 89)⟩, ⟨some 91, (some (86, true)), .ld none (.t 90)⟩, ⟨some 92, (some (86, true)), .mv (.t 7)⟩, ⟨some 93, (some (86, true)), .fa 12 (.t 9)⟩, ⟨some 94, (some (86, true)), .ld none (.t 93)⟩, ⟨some 95, (some (86, true)), .call true 100 [(.t 91), (.k (.int .i64 3)), (.t 92), (.t 94)]⟩, ⟨some 96, (some (86, true)), .bin .neq 0 (.t 95) (.k (.int .i64 1))⟩, ⟨some 97, (some (82, false)), .pk (.t 86) (.t 96) (.k (.bool false))⟩, ⟨some 98, none, .pk (.t 82) (.k (.bool true)) (.t 97)⟩])
       (.cond (.t 98)
        (.seq (.reg [⟨some 2, none, .mv (.k (.int .i64 22))⟩])
        .ret)
        .skip))))
      (.reg [⟨some 99, none, .bin .add 0 (.t 63) (.k (.int .i64 1))⟩, ⟨some 63, none, .mv (.t 99)⟩])))))))))
   (.reg [⟨some 100, none, .bin .add 0 (.t 55) (.k (.int .i64 1))⟩, ⟨some 55, none, .mv (.t 100)⟩])))))))
 (.seq (.reg [⟨some 2, none, .mv (.k (.int .i64 0))⟩])
 .ret)))))
set_option maxRecDepth 100000 in
theorem er58 : (Try.f58.body.bind (erC Try.prog cfg 101)) = some c58 := by kernel_rfl
theorem in58 {args : List AV} {σ : St} {Q : AV → St → Prop} (hlen : args.length ≤ 101) (h : σ.Wf → (∀ i, i < args.length → Hab (args.getD i .undef)) → SWP Try.prog σ.next c58 (retQ σ.next [.t 2] Q) (fun i => args.getD i .undef) σ) : TQ Try.prog 58 args σ Q := by
 obtain ⟨k, hb, hk⟩ := Option.bind_eq_some_iff.1 er58
 exact TQ_of (fn := Try.f58) Try.func58 (by kernel_rfl) hb (erC_is mixed hk) (by kernel_rfl) hlen h

/-! parquetry/parquetrykeep.bent -/
/-! (*parquetry/code.Maker).there -/
def c60 : C :=
 (.seq (.reg [⟨some 4, none, .mv (.k (.bool false))⟩])
 (.seq (.reg [⟨some 5, none, .mv (.t 1)⟩, ⟨some 6, none, .bin .geq 0 (.t 5) (.k (.int .i64 0))⟩, ⟨some 7, none, .mv (.t 6)⟩, ⟨some 8, (some (7, true)), .mv (.t 1)⟩, ⟨some 9, (some (7, true)), .mv (.t 0)⟩, ⟨some 10, (some (7, true)), .nc (.t 9)⟩, ⟨some 11, (some (7, true)), .fa 0 (.t 10)⟩, ⟨some 12, (some (7, true)), .ld none (.t 11)⟩, ⟨some 13, (some (7, true)), .ln false (.t 12)⟩, ⟨some 14, (some (7, true)), .bin .lss 0 (.t 8) (.t 13)⟩, ⟨some 15, none, .pk (.t 7) (.t 14) (.k (.bool false))⟩, ⟨some 4, none, .mv (.t 15)⟩])
 .ret))
set_option maxRecDepth 100000 in
theorem er60 : (Try.f60.body.bind (erC Try.prog cfg 16)) = some c60 := by kernel_rfl
theorem in60 {args : List AV} {σ : St} {Q : AV → St → Prop} (hlen : args.length ≤ 16) (h : σ.Wf → (∀ i, i < args.length → Hab (args.getD i .undef)) → SWP Try.prog σ.next c60 (retQ σ.next [.t 4] Q) (fun i => args.getD i .undef) σ) : TQ Try.prog 60 args σ Q := by
 obtain ⟨k, hb, hk⟩ := Option.bind_eq_some_iff.1 er60
 exact TQ_of (fn := Try.f60) Try.func60 (by kernel_rfl) hb (erC_is mixed hk) (by kernel_rfl) hlen h

/-! (*parquetry/code.Maker).Room -/
def c61 : C :=
 (.seq (.reg [⟨some 4, none, .mv (.k (.int .i64 0))⟩])
 (.seq (.seq (.reg [⟨some 5, none, .mv (.t 0)⟩, ⟨some 6, none, .mv (.t 1)⟩, ⟨some 7, none, .call true 60 [(.t 5), (.t 6)]⟩, ⟨some 8, none, .un .not (.t 7)⟩])
 (.cond (.t 8)
  (.seq (.reg [⟨some 4, none, .mv (.k (.int .i64 0))⟩])
  .ret)
  .skip))
 (.seq (.reg [⟨some 9, none, .mv (.t 0)⟩, ⟨some 10, none, .nc (.t 9)⟩, ⟨some 11, none, .fa 0 (.t 10)⟩, ⟨some 12, none, .ld none (.t 11)⟩, ⟨some 13, none, .mv (.t 1)⟩, ⟨some 14, none, .ia 1 (.t 12) (.t 13)⟩, ⟨some 15, none, .ld none (.t 14)⟩, ⟨some 16, none, .ln false (.t 15)⟩, ⟨some 17, none, .bin .sub 0 (.k (.int .i64 65536)) (.t 16)⟩, ⟨some 4, none, .mv (.t 17)⟩])
 .ret)))
set_option maxRecDepth 100000 in
theorem er61 : (Try.f61.body.bind (erC Try.prog cfg 18)) = some c61 := by kernel_rfl
theorem in61 {args : List AV} {σ : St} {Q : AV → St → Prop} (hlen : args.length ≤ 18) (h : σ.Wf → (∀ i, i < args.length → Hab (args.getD i .undef)) → SWP Try.prog σ.next c61 (retQ σ.next [.t 4] Q) (fun i => args.getD i .undef) σ) : TQ Try.prog 61 args σ Q := by
 obtain ⟨k, hb, hk⟩ := Option.bind_eq_some_iff.1 er61
 exact TQ_of (fn := Try.f61) Try.func61 (by kernel_rfl) hb (erC_is mixed hk) (by kernel_rfl) hlen h

/-! parquetry/code.own -/
def c62 : C :=
 (.seq (.reg [⟨some 1, none, .bx (.t 0)⟩, ⟨some 2, none, .al [.int .i64 0, .int .i64 0, .lit 1 [], .int .i64 0, .lit 1 [], .lit 1 [], .lit 1 [], .int .i64 0, .int .i64 0, .str ⟨#[]⟩, .int .i64 0, .int .i64 0, .int .i64 0]⟩])
 (.seq (.drs [⟨some 3, none, .fa 2 (.t 1)⟩, ⟨some 4, none, .ld none (.t 3)⟩, ⟨some 5, none, .call true 72 [(.t 4)]⟩, ⟨some 6, none, .fa 3 (.t 1)⟩, ⟨some 7, none, .ld (some 7) (.t 6)⟩, ⟨some 8, none, .call true 102 [(.t 7)]⟩, ⟨some 9, none, .fa 2 (.t 1)⟩, ⟨none, none, .st 1 (.t 9) (.t 5)⟩, ⟨some 10, none, .fa 3 (.t 1)⟩, ⟨none, none, .st 7 (.t 10) (.t 8)⟩])
 (.seq (.reg [⟨some 11, none, .ld (some 13) (.t 1)⟩, ⟨none, none, .st 13 (.t 2) (.t 11)⟩])
 .ret)))
set_option maxRecDepth 100000 in
theorem er62 : (Try.f62.body.bind (erC Try.prog cfg 12)) = some c62 := by kernel_rfl
theorem in62 {args : List AV} {σ : St} {Q : AV → St → Prop} (hlen : args.length ≤ 12) (h : σ.Wf → (∀ i, i < args.length → Hab (args.getD i .undef)) → SWP Try.prog σ.next c62 (retQ σ.next [.c (some 13) 2] Q) (fun i => args.getD i .undef) σ) : TQ Try.prog 62 args σ Q := by
 obtain ⟨k, hb, hk⟩ := Option.bind_eq_some_iff.1 er62
 exact TQ_of (fn := Try.f62) Try.func62 (by kernel_rfl) hb (erC_is mixed hk) (by kernel_rfl) hlen h

/-! parquetry/parquetryref1.Ints -/
def c63 : C :=
 (.seq (.reg [⟨some 4, none, .mv (.k (.bool false))⟩])
 (.seq (.seq (.reg [⟨some 6, none, .mv (.t 0)⟩, ⟨some 7, none, .ln false (.t 6)⟩, ⟨some 8, none, .mv (.t 1)⟩, ⟨some 9, none, .ln false (.t 8)⟩, ⟨some 10, none, .bin .neq 0 (.t 7) (.t 9)⟩])
 (.cond (.t 10)
  (.seq (.reg [⟨some 4, none, .mv (.k (.bool false))⟩])
  .ret)
  .skip))
 (.seq (.seq (.reg [⟨some 5, none, .mv (.k (.int .i64 0))⟩])
 (.block 0
  (.loop
   (.seq (.seq (.reg [⟨some 11, none, .mv (.t 5)⟩, ⟨some 12, none, .mv (.t 0)⟩, ⟨some 13, none, .ln false (.t 12)⟩, ⟨some 14, none, .bin .lss 0 (.t 11) (.t 13)⟩])
   (.cond (.t 14)
    .skip
    (.exit 0)))
   (.seq (.block 1
    (.seq (.drs [⟨some 17, none, .mv (.t 0)⟩, ⟨some 18, none, .mv (.t 5)⟩, ⟨some 19, none, .ia 1 (.t 17) (.t 18)⟩, ⟨some 20, none, .ld none (.t 19)⟩, ⟨some 21, none, .mv (.t 1)⟩, ⟨some 22, none, .mv (.t 5)⟩, ⟨some 23, none, .ia 1 (.t 21) (.t 22)⟩, ⟨some 24, none, .ld none (.t 23)⟩, ⟨some 25, none, .bin .neq 0 (.t 20) (.t 24)⟩])
    (.cond (.t 25)
     (.seq (.reg [⟨some 4, none, .mv (.k (.bool false))⟩])
     .ret)
     .skip)))
   (.reg [⟨some 15, none, .mv (.t 5)⟩, ⟨some 16, none, .bin .add 0 (.t 15) (.k (.int .i64 1))⟩, ⟨some 5, none, .mv (.t 16)⟩]))))))
 (.seq (.reg [⟨some 4, none, .mv (.k (.bool true))⟩])
 .ret))))
set_option maxRecDepth 100000 in
theorem er63 : (Try.f63.body.bind (erC Try.prog cfg 26)) = some c63 := by kernel_rfl
theorem in63 {args : List AV} {σ : St} {Q : AV → St → Prop} (hlen : args.length ≤ 26) (h : σ.Wf → (∀ i, i < args.length → Hab (args.getD i .undef)) → SWP Try.prog σ.next c63 (retQ σ.next [.t 4] Q) (fun i => args.getD i .undef) σ) : TQ Try.prog 63 args σ Q := by
 obtain ⟨k, hb, hk⟩ := Option.bind_eq_some_iff.1 er63
 exact TQ_of (fn := Try.f63) Try.func63 (by kernel_rfl) hb (erC_is mixed hk) (by kernel_rfl) hlen h

/-! parquetry/code.Copy -/
def c64 : C :=
 (.seq (.reg [⟨some 2, none, .mv (.k (.nils))⟩])
 (.seq (.reg [⟨some 8, none, .mv (.t 0)⟩, ⟨some 9, none, .ln false (.t 8)⟩, ⟨some 10, none, .ms 1 24 [.nils] (.t 9) (.t 9)⟩, ⟨some 3, none, .mv (.t 10)⟩])
 (.seq (.seq (.reg [⟨some 11, none, .mv (.t 0)⟩, ⟨some 12, none, .ln false (.t 11)⟩, ⟨some 13, none, .mv (.k (.int .i64 0))⟩])
 (.block 0
  (.loop
   (.seq (.reg [⟨some 14, none, .bin .lss 0 (.t 13) (.t 12)⟩])
   (.seq (.cond (.t 14)
    .skip
    (.exit 0))
   (.seq (.block 1
    (.seq (.reg [⟨some 15, none, .mv (.t 13)⟩, ⟨some 16, none, .ia 1 (.t 11) (.t 13)⟩, ⟨some 17, none, .ld none (.t 16)⟩, ⟨some 4, none, .mv (.t 15)⟩, ⟨some 5, none, .mv (.t 17)⟩])
    (.seq (.reg [⟨some 18, none, .mv (.t 5)⟩, ⟨some 19, none, .ln false (.t 18)⟩, ⟨some 20, none, .mv (.k (.int .i64 0))⟩])
    (.block 2
     (.loop
      (.seq (.reg [⟨some 21, none, .bin .lss 0 (.t 20) (.t 19)⟩])
      (.seq (.cond (.t 21)
       .skip
       (.exit 2))
      (.seq (.block 3
       (.seq (.reg [⟨some 22, none, .ia 13 (.t 18) (.t 20)⟩, ⟨some 23, none, .ld (some 13) (.t 22)⟩, ⟨some 7, none, .al [.int .i64 0, .int .i64 0, .lit 1 [], .int .i64 0, .lit 1 [], .lit 1 [], .lit 1 [], .int .i64 0, .int .i64 0, .str ⟨#[]⟩, .int .i64 0, .int .i64 0, .int .i64 0]⟩, ⟨none, none, .st 13 (.t 7) (.t 23)⟩])
       (.drs [⟨some 24, none, .mv (.t 3)⟩, ⟨some 25, none, .mv (.t 4)⟩, ⟨some 26, none, .mv (.t 3)⟩, ⟨some 27, none, .mv (.t 4)⟩, ⟨some 28, none, .ia 1 (.t 26) (.t 27)⟩, ⟨some 29, none, .ld none (.t 28)⟩, ⟨some 30, none, .ld (some 13) (.t 7)⟩, ⟨some 31, none, .call true 62 [(.t 30)]⟩, ⟨some 32, none, .bs false 13 [.int .i64 0, .int .i64 0, .lit 1 [], .int .i64 0, .lit 1 [], .lit 1 [], .lit 1 [], .int .i64 0, .int .i64 0, .str ⟨#[]⟩, .int .i64 0, .int .i64 0, .int .i64 0] 1 [(0, (.t 31))]⟩, ⟨some 33, none, .ap 13 176 (.t 29) (.t 32)⟩, ⟨some 34, none, .ia 1 (.t 24) (.t 25)⟩, ⟨none, none, .st 1 (.t 34) (.t 33)⟩])))
      (.reg [⟨some 35, none, .bin .add 0 (.t 20) (.k (.int .i64 1))⟩, ⟨some 20, none, .mv (.t 35)⟩])))))))))
   (.reg [⟨some 36, none, .bin .add 0 (.t 13) (.k (.int .i64 1))⟩, ⟨some 13, none, .mv (.t 36)⟩])))))))
 (.seq (.reg [⟨some 37, none, .mv (.t 3)⟩, ⟨some 2, none, .mv (.t 37)⟩])
 .ret))))
set_option maxRecDepth 100000 in
theorem er64 : (Try.f64.body.bind (erC Try.prog cfg 38)) = some c64 := by kernel_rfl
theorem in64 {args : List AV} {σ : St} {Q : AV → St → Prop} (hlen : args.length ≤ 38) (h : σ.Wf → (∀ i, i < args.length → Hab (args.getD i .undef)) → SWP Try.prog σ.next c64 (retQ σ.next [.t 2] Q) (fun i => args.getD i .undef) σ) : TQ Try.prog 64 args σ Q := by
 obtain ⟨k, hb, hk⟩ := Option.bind_eq_some_iff.1 er64
 exact TQ_of (fn := Try.f64) Try.func64 (by kernel_rfl) hb (erC_is mixed hk) (by kernel_rfl) hlen h

/-! parquetry/code.ends -/
/-! slices.ContainsFunc[[]parquetry/api.Program,parquetry/api.Program] -/
/-! parquetry/code.Right$1 -/
/-! parquetry/code.program -/
/-! (*parquetry/parquetrykeep.Tape).Tensor -/
def c70 : C :=
 (.seq (.reg [⟨some 4, none, .al [.lit 1 [], .lit 1 []]⟩])
 (.seq (.reg [⟨some 7, none, .mv (.t 1)⟩, ⟨some 8, none, .call false 48 [(.t 7), (.k (.int .i64 0))]⟩, ⟨some 5, none, .al [.lit 1 [], .lit 1 []]⟩, ⟨none, none, .st 2 (.t 5) (.t 8)⟩])
 (.seq (.seq (.reg [⟨some 9, none, .fa 1 (.t 5)⟩, ⟨some 10, none, .ld none (.t 9)⟩, ⟨some 11, none, .ln false (.t 10)⟩, ⟨some 12, none, .mv (.k (.int .i64 0))⟩])
 (.block 0
  (.loop
   (.seq (.reg [⟨some 13, none, .bin .lss 0 (.t 12) (.t 11)⟩])
   (.seq (.cond (.t 13)
    .skip
    (.exit 0))
   (.seq (.block 1
    (.seq (.reg [⟨some 14, none, .mv (.t 12)⟩, ⟨some 6, none, .mv (.t 14)⟩])
    (.dr [[], [0], [], [], [3], [1, 2, 0, 3, 4], [5, 4, 0, 1, 2, 3]] [⟨some 15, none, .fa 1 (.t 5)⟩, ⟨some 16, none, .ld none (.t 15)⟩, ⟨some 17, none, .mv (.t 6)⟩, ⟨some 18, none, .mv (.t 0)⟩, ⟨some 19, none, .call false 106 [(.t 18)]⟩, ⟨some 20, none, .ia 1 (.t 16) (.t 17)⟩, ⟨none, none, .st 1 (.t 20) (.t 19)⟩])))
   (.reg [⟨some 21, none, .bin .add 0 (.t 12) (.k (.int .i64 1))⟩, ⟨some 12, none, .mv (.t 21)⟩])))))))
 (.seq (.reg [⟨some 22, none, .ld (some 2) (.t 5)⟩, ⟨none, none, .st 2 (.t 4) (.t 22)⟩])
 .ret))))
set_option maxRecDepth 100000 in
theorem er70 : (Try.f70.body.bind (erC Try.prog cfg 23)) = some c70 := by kernel_rfl
theorem in70 {args : List AV} {σ : St} {Q : AV → St → Prop} (hlen : args.length ≤ 23) (h : σ.Wf → (∀ i, i < args.length → Hab (args.getD i .undef)) → SWP Try.prog σ.next c70 (retQ σ.next [.c (some 2) 4] Q) (fun i => args.getD i .undef) σ) : TQ Try.prog 70 args σ Q := by
 obtain ⟨k, hb, hk⟩ := Option.bind_eq_some_iff.1 er70
 exact TQ_of (fn := Try.f70) Try.func70 (by kernel_rfl) hb (erC_is mixed hk) (by kernel_rfl) hlen h

/-! slices.Clone[[]int,int] -/
def c72 : C :=
 (.seq (.reg [⟨some 2, none, .mv (.k (.nils))⟩])
 (.seq (.seq (.reg [⟨some 3, none, .mv (.t 0)⟩, ⟨some 4, none, .bin .eql 3 (.t 3) (.k (.nils))⟩])
 (.cond (.t 4)
  (.seq (.reg [⟨some 2, none, .mv (.k (.nils))⟩])
  .ret)
  .skip))
 (.seq (.reg [⟨some 5, none, .bs false 1 [.int .i64 0] 0 []⟩, ⟨some 6, none, .mv (.t 0)⟩, ⟨some 7, none, .ap 1 8 (.t 5) (.t 6)⟩, ⟨some 2, none, .mv (.t 7)⟩])
 .ret)))
set_option maxRecDepth 100000 in
theorem er72 : (Try.f72.body.bind (erC Try.prog cfg 8)) = some c72 := by kernel_rfl
theorem in72 {args : List AV} {σ : St} {Q : AV → St → Prop} (hlen : args.length ≤ 8) (h : σ.Wf → (∀ i, i < args.length → Hab (args.getD i .undef)) → SWP Try.prog σ.next c72 (retQ σ.next [.t 2] Q) (fun i => args.getD i .undef) σ) : TQ Try.prog 72 args σ Q := by
 obtain ⟨k, hb, hk⟩ := Option.bind_eq_some_iff.1 er72
 exact TQ_of (fn := Try.f72) Try.func72 (by kernel_rfl) hb (erC_is mixed hk) (by kernel_rfl) hlen h

/-! parquetry/parquetryref1.Size -/
def c91 : C :=
 (.seq (.reg [⟨some 2, none, .mv (.k (.int .i64 0))⟩])
 (.seq (.seq (.reg [⟨some 5, none, .mv (.t 0)⟩, ⟨some 6, none, .call true 93 [(.t 5)]⟩, ⟨some 7, none, .un .not (.t 6)⟩])
 (.cond (.t 7)
  (.seq (.reg [⟨some 2, none, .mv (.k (.int .i64 0))⟩])
  .ret)
  .skip))
 (.seq (.reg [⟨some 3, none, .mv (.k (.int .i64 1))⟩])
 (.seq (.seq (.reg [⟨some 4, none, .mv (.k (.int .i64 0))⟩])
 (.block 0
  (.loop
   (.seq (.seq (.reg [⟨some 8, none, .mv (.t 4)⟩, ⟨some 9, none, .mv (.t 0)⟩, ⟨some 10, none, .ln false (.t 9)⟩, ⟨some 11, none, .bin .lss 0 (.t 8) (.t 10)⟩])
   (.cond (.t 11)
    .skip
    (.exit 0)))
   (.seq (.block 1
    (.reg [⟨some 14, none, .mv (.t 3)⟩, ⟨some 15, none, .mv (.t 0)⟩, ⟨some 16, none, .mv (.t 4)⟩, ⟨some 17, none, .ia 1 (.t 15) (.t 16)⟩, ⟨some 18, none, .ld none (.t 17)⟩, ⟨some 19, none, .bin .mul 0 (.t 14) (.t 18)⟩, ⟨some 3, none, .mv (.t 19)⟩]))
   (.reg [⟨some 12, none, .mv (.t 4)⟩, ⟨some 13, none, .bin .add 0 (.t 12) (.k (.int .i64 1))⟩, ⟨some 4, none, .mv (.t 13)⟩]))))))
 (.seq (.reg [⟨some 20, none, .mv (.t 3)⟩, ⟨some 2, none, .mv (.t 20)⟩])
 .ret)))))
set_option maxRecDepth 100000 in
theorem er91 : (Try.f91.body.bind (erC Try.prog cfg 21)) = some c91 := by kernel_rfl
theorem in91 {args : List AV} {σ : St} {Q : AV → St → Prop} (hlen : args.length ≤ 21) (h : σ.Wf → (∀ i, i < args.length → Hab (args.getD i .undef)) → SWP Try.prog σ.next c91 (retQ σ.next [.t 2] Q) (fun i => args.getD i .undef) σ) : TQ Try.prog 91 args σ Q := by
 obtain ⟨k, hb, hk⟩ := Option.bind_eq_some_iff.1 er91
 exact TQ_of (fn := Try.f91) Try.func91 (by kernel_rfl) hb (erC_is mixed hk) (by kernel_rfl) hlen h

/-! parquetry/parquetryref1.Tensor -/
def c92 : C :=
 (.seq (.reg [⟨some 1, none, .bx (.t 0)⟩, ⟨some 2, none, .mv (.k (.bool false))⟩])
 (.seq (.drs [⟨some 3, none, .fa 0 (.t 1)⟩, ⟨some 4, none, .ld none (.t 3)⟩, ⟨some 5, none, .call true 93 [(.t 4)]⟩, ⟨some 6, none, .mv (.t 5)⟩, ⟨some 7, (some (6, true)), .fa 1 (.t 1)⟩, ⟨some 8, (some (6, true)), .ld none (.t 7)⟩, ⟨some 9, (some (6, true)), .ln false (.t 8)⟩, ⟨some 10, (some (6, true)), .fa 0 (.t 1)⟩, ⟨some 11, (some (6, true)), .ld none (.t 10)⟩, ⟨some 12, (some (6, true)), .call true 91 [(.t 11)]⟩, ⟨some 13, (some (6, true)), .bin .eql 0 (.t 9) (.t 12)⟩, ⟨some 14, none, .pk (.t 6) (.t 13) (.k (.bool false))⟩, ⟨some 2, none, .mv (.t 14)⟩])
 .ret))
set_option maxRecDepth 100000 in
theorem er92 : (Try.f92.body.bind (erC Try.prog cfg 15)) = some c92 := by kernel_rfl
theorem in92 {args : List AV} {σ : St} {Q : AV → St → Prop} (hlen : args.length ≤ 15) (h : σ.Wf → (∀ i, i < args.length → Hab (args.getD i .undef)) → SWP Try.prog σ.next c92 (retQ σ.next [.t 2] Q) (fun i => args.getD i .undef) σ) : TQ Try.prog 92 args σ Q := by
 obtain ⟨k, hb, hk⟩ := Option.bind_eq_some_iff.1 er92
 exact TQ_of (fn := Try.f92) Try.func92 (by kernel_rfl) hb (erC_is mixed hk) (by kernel_rfl) hlen h

/-! parquetry/parquetryref1.Right -/
def c93 : C :=
 (.seq (.reg [⟨some 2, none, .mv (.k (.bool false))⟩])
 (.seq (.reg [⟨some 3, none, .mv (.k (.int .i64 1))⟩])
 (.seq (.seq (.reg [⟨some 4, none, .mv (.k (.int .i64 0))⟩])
 (.block 0
  (.loop
   (.seq (.seq (.reg [⟨some 5, none, .mv (.t 4)⟩, ⟨some 6, none, .mv (.t 0)⟩, ⟨some 7, none, .ln false (.t 6)⟩, ⟨some 8, none, .bin .lss 0 (.t 5) (.t 7)⟩])
   (.cond (.t 8)
    .skip
    (.exit 0)))
   (.seq (.block 1
    (.seq (.seq (.reg [⟨some 11, none, .mv (.t 0)⟩, ⟨some 12, none, .mv (.t 4)⟩, ⟨some 13, none, .ia 1 (.t 11) (.t 12)⟩, ⟨some 14, none, .ld none (.t 13)⟩, ⟨some 15, none, .bin .lss 0 (.t 14) (.k (.int .i64 0))⟩, ⟨some 16, none, .mv (.t 15)⟩, ⟨some 17, (some (16, false)), .mv (.t 0)⟩, ⟨some 18, (some (16, false)), .mv (.t 4)⟩, ⟨some 19, (some (16, false)), .ia 1 (.t 17) (.t 18)⟩, ⟨some 20, (some (16, false)), .ld none (.t 19)⟩, ⟨some 21, (some (16, false)), .bin .gtr 0 (.t 20) (.k (.int .i64 32))⟩, ⟨some 22, none, .pk (.t 16) (.k (.bool true)) (.t 21)⟩, ⟨some 23, none, .mv (.t 22)⟩, ⟨some 24, (some (23, false)), .mv (.t 4)⟩, ⟨some 25, (some (23, false)), .bin .geq 0 (.t 24) (.k (.int .i64 4))⟩, ⟨some 26, none, .pk (.t 23) (.k (.bool true)) (.t 25)⟩])
    (.cond (.t 26)
     (.seq (.reg [⟨some 2, none, .mv (.k (.bool false))⟩])
     .ret)
     .skip))
    (.reg [⟨some 27, none, .mv (.t 3)⟩, ⟨some 28, none, .mv (.t 0)⟩, ⟨some 29, none, .mv (.t 4)⟩, ⟨some 30, none, .ia 1 (.t 28) (.t 29)⟩, ⟨some 31, none, .ld none (.t 30)⟩, ⟨some 32, none, .bin .mul 0 (.t 27) (.t 31)⟩, ⟨some 3, none, .mv (.t 32)⟩])))
   (.reg [⟨some 9, none, .mv (.t 4)⟩, ⟨some 10, none, .bin .add 0 (.t 9) (.k (.int .i64 1))⟩, ⟨some 4, none, .mv (.t 10)⟩]))))))
 (.seq (.reg [⟨some 33, none, .mv (.t 3)⟩, ⟨some 34, none, .bin .leq 0 (.t 33) (.k (.int .i64 4096))⟩, ⟨some 2, none, .mv (.t 34)⟩])
 .ret))))
set_option maxRecDepth 100000 in
theorem er93 : (Try.f93.body.bind (erC Try.prog cfg 35)) = some c93 := by kernel_rfl
theorem in93 {args : List AV} {σ : St} {Q : AV → St → Prop} (hlen : args.length ≤ 35) (h : σ.Wf → (∀ i, i < args.length → Hab (args.getD i .undef)) → SWP Try.prog σ.next c93 (retQ σ.next [.t 2] Q) (fun i => args.getD i .undef) σ) : TQ Try.prog 93 args σ Q := by
 obtain ⟨k, hb, hk⟩ := Option.bind_eq_some_iff.1 er93
 exact TQ_of (fn := Try.f93) Try.func93 (by kernel_rfl) hb (erC_is mixed hk) (by kernel_rfl) hlen h

/-! parquetry/parquetryref1.Place -/
/-! parquetry/parquetryref1.Index -/
/-! (*parquetry/parquetrykeep.maker).put -/
/-! parquetry/parquetrykeep.same -/
/-! parquetry/parquetryref18.form -/
def c98 : C :=
 (.seq (.reg [⟨some 1, none, .bx (.t 0)⟩, ⟨some 2, none, .mv (.k (.bool false))⟩])
 (.seq (.seq (.reg [⟨some 3, none, .fa 0 (.t 1)⟩, ⟨some 4, none, .ld none (.t 3)⟩])
 (.block 0
  (.seq (.reg [⟨some 6, none, .bin .eql 0 (.t 4) (.k (.int .i64 1))⟩, ⟨some 5, none, .mv (.t 6)⟩])
  (.cond (.t 5)
   (.seq (.reg [⟨some 7, none, .fa 2 (.t 1)⟩, ⟨some 8, none, .ld none (.t 7)⟩, ⟨some 9, none, .ln false (.t 8)⟩, ⟨some 10, none, .bin .eql 0 (.t 9) (.k (.int .i64 0))⟩, ⟨some 11, none, .mv (.t 10)⟩, ⟨some 12, (some (11, true)), .fa 3 (.t 1)⟩, ⟨some 13, (some (11, true)), .ld (some 7) (.t 12)⟩, ⟨some 14, (some (11, true)), .call true 124 [(.t 13)]⟩, ⟨some 15, none, .pk (.t 11) (.t 14) (.k (.bool false))⟩, ⟨some 16, none, .mv (.t 15)⟩, ⟨some 17, (some (16, true)), .fa 11 (.t 1)⟩, ⟨some 18, (some (16, true)), .ld none (.t 17)⟩, ⟨some 19, (some (16, true)), .bin .eql 0 (.t 18) (.k (.int .i64 0))⟩, ⟨some 20, none, .pk (.t 16) (.t 19) (.k (.bool false))⟩, ⟨some 21, none, .mv (.t 20)⟩, ⟨some 22, (some (21, true)), .fa 12 (.t 1)⟩, ⟨some 23, (some (21, true)), .ld none (.t 22)⟩, ⟨some 24, (some (21, true)), .bin .eql 0 (.t 23) (.k (.int .i64 0))⟩, ⟨some 25, none, .pk (.t 21) (.t 24) (.k (.bool false))⟩, ⟨some 2, none, .mv (.t 25)⟩])
   .ret)
   (.seq (.reg [⟨some 27, none, .bin .eql 0 (.t 4) (.k (.int .i64 2))⟩, ⟨some 26, none, .mv (.t 27)⟩])
   (.cond (.t 26)
    (.seq (.reg [⟨some 28, none, .fa 10 (.t 1)⟩, ⟨some 29, none, .ld none (.t 28)⟩, ⟨some 30, none, .bin .eql 0 (.t 29) (.k (.int .i64 0))⟩, ⟨some 31, none, .mv (.t 30)⟩, ⟨some 32, (some (31, true)), .fa 11 (.t 1)⟩, ⟨some 33, (some (31, true)), .ld none (.t 32)⟩, ⟨some 34, (some (31, true)), .bin .eql 0 (.t 33) (.k (.int .i64 0))⟩, ⟨some 35, none, .pk (.t 31) (.t 34) (.k (.bool false))⟩, ⟨some 36, none, .mv (.t 35)⟩, ⟨some 37, (some (36, true)), .fa 12 (.t 1)⟩, ⟨some 38, (some (36, true)), .ld none (.t 37)⟩, ⟨some 39, (some (36, true)), .bin .eql 0 (.t 38) (.k (.int .i64 0))⟩, ⟨some 40, none, .pk (.t 36) (.t 39) (.k (.bool false))⟩, ⟨some 2, none, .mv (.t 40)⟩])
    .ret)
    (.seq (.reg [⟨some 42, none, .bin .eql 0 (.t 4) (.k (.int .i64 3))⟩, ⟨some 41, none, .mv (.t 42)⟩])
    (.cond (.t 41)
     (.seq (.reg [⟨some 43, none, .fa 1 (.t 1)⟩, ⟨some 44, none, .ld none (.t 43)⟩, ⟨some 45, none, .bin .eql 0 (.t 44) (.k (.int .i64 0))⟩, ⟨some 46, none, .mv (.t 45)⟩, ⟨some 47, (some (46, true)), .fa 2 (.t 1)⟩, ⟨some 48, (some (46, true)), .ld none (.t 47)⟩, ⟨some 49, (some (46, true)), .ln false (.t 48)⟩, ⟨some 50, (some (46, true)), .bin .eql 0 (.t 49) (.k (.int .i64 1))⟩, ⟨some 51, none, .pk (.t 46) (.t 50) (.k (.bool false))⟩, ⟨some 52, none, .mv (.t 51)⟩, ⟨some 53, (some (52, true)), .fa 3 (.t 1)⟩, ⟨some 54, (some (52, true)), .ld (some 7) (.t 53)⟩, ⟨some 55, (some (52, true)), .call true 124 [(.t 54)]⟩, ⟨some 56, none, .pk (.t 52) (.t 55) (.k (.bool false))⟩, ⟨some 57, none, .mv (.t 56)⟩, ⟨some 58, (some (57, true)), .fa 10 (.t 1)⟩, ⟨some 59, (some (57, true)), .ld none (.t 58)⟩, ⟨some 60, (some (57, true)), .bin .eql 0 (.t 59) (.k (.int .i64 0))⟩, ⟨some 61, none, .pk (.t 57) (.t 60) (.k (.bool false))⟩, ⟨some 2, none, .mv (.t 61)⟩])
     .ret)
     (.seq (.reg [⟨some 63, none, .bin .eql 0 (.t 4) (.k (.int .i64 4))⟩, ⟨some 62, none, .mv (.t 63)⟩])
     (.cond (.t 62)
      (.seq (.reg [⟨some 64, none, .fa 2 (.t 1)⟩, ⟨some 65, none, .ld none (.t 64)⟩, ⟨some 66, none, .ln false (.t 65)⟩, ⟨some 67, none, .bin .eql 0 (.t 66) (.k (.int .i64 0))⟩, ⟨some 68, none, .mv (.t 67)⟩, ⟨some 69, (some (68, true)), .fa 3 (.t 1)⟩, ⟨some 70, (some (68, true)), .ld (some 7) (.t 69)⟩, ⟨some 71, (some (68, true)), .call true 124 [(.t 70)]⟩, ⟨some 72, none, .pk (.t 68) (.t 71) (.k (.bool false))⟩, ⟨some 73, none, .mv (.t 72)⟩, ⟨some 74, (some (73, true)), .fa 10 (.t 1)⟩, ⟨some 75, (some (73, true)), .ld none (.t 74)⟩, ⟨some 76, (some (73, true)), .bin .eql 0 (.t 75) (.k (.int .i64 0))⟩, ⟨some 77, none, .pk (.t 73) (.t 76) (.k (.bool false))⟩, ⟨some 2, none, .mv (.t 77)⟩])
      .ret)
      .skip))))))))))
 (.seq (.reg [⟨some 2, none, .mv (.k (.bool false))⟩])
 .ret)))
set_option maxRecDepth 100000 in
theorem er98 : (Try.f98.body.bind (erC Try.prog cfg 78)) = some c98 := by kernel_rfl
theorem in98 {args : List AV} {σ : St} {Q : AV → St → Prop} (hlen : args.length ≤ 78) (h : σ.Wf → (∀ i, i < args.length → Hab (args.getD i .undef)) → SWP Try.prog σ.next c98 (retQ σ.next [.t 2] Q) (fun i => args.getD i .undef) σ) : TQ Try.prog 98 args σ Q := by
 obtain ⟨k, hb, hk⟩ := Option.bind_eq_some_iff.1 er98
 exact TQ_of (fn := Try.f98) Try.func98 (by kernel_rfl) hb (erC_is mixed hk) (by kernel_rfl) hlen h

/-! parquetry/parquetryref18.named -/
def c99 : C :=
 (.seq (.reg [⟨some 6, none, .mv (.k (.bool false))⟩])
 (.seq (.reg [⟨some 10, none, .mv (.t 0)⟩, ⟨some 11, none, .mv (.t 1)⟩, ⟨some 12, none, .ia 13 (.t 10) (.t 11)⟩, ⟨some 13, none, .ld (some 13) (.t 12)⟩, ⟨some 7, none, .al [.int .i64 0, .int .i64 0, .lit 1 [], .int .i64 0, .lit 1 [], .lit 1 [], .lit 1 [], .int .i64 0, .int .i64 0, .str ⟨#[]⟩, .int .i64 0, .int .i64 0, .int .i64 0]⟩, ⟨none, none, .st 13 (.t 7) (.t 13)⟩])
 (.seq (.seq (.reg [⟨some 14, none, .fa 2 (.t 7)⟩, ⟨some 15, none, .ld none (.t 14)⟩, ⟨some 16, none, .ln false (.t 15)⟩, ⟨some 17, none, .mv (.k (.int .i64 0))⟩])
 (.block 0
  (.loop
   (.seq (.reg [⟨some 18, none, .bin .lss 0 (.t 17) (.t 16)⟩])
   (.seq (.cond (.t 18)
    .skip
    (.exit 0))
   (.seq (.block 1
    (.seq (.reg [⟨some 19, none, .ia 1 (.t 15) (.t 17)⟩, ⟨some 20, none, .ld none (.t 19)⟩, ⟨some 9, none, .mv (.t 20)⟩])
    (.seq (.reg [⟨some 21, none, .mv (.t 0)⟩, ⟨some 22, none, .mv (.t 1)⟩, ⟨some 23, none, .mv (.t 9)⟩, ⟨some 24, none, .call true 125 [(.t 21), (.t 22), (.t 23)]⟩, ⟨some 25, none, .un .not (.t 24)⟩])
    (.cond (.t 25)
     (.seq (.reg [⟨some 6, none, .mv (.k (.bool false))⟩])
     .ret)
     .skip))))
   (.reg [⟨some 26, none, .bin .add 0 (.t 17) (.k (.int .i64 1))⟩, ⟨some 17, none, .mv (.t 26)⟩])))))))
 (.seq (.seq (.reg [⟨some 27, none, .fa 0 (.t 7)⟩, ⟨some 28, none, .ld none (.t 27)⟩, ⟨some 29, none, .bin .neq 0 (.t 28) (.k (.int .i64 3))⟩, ⟨some 30, none, .mv (.t 29)⟩, ⟨some 31, (some (30, true)), .fa 1 (.t 7)⟩, ⟨some 32, (some (30, true)), .ld none (.t 31)⟩, ⟨some 33, (some (30, true)), .bin .lss 0 (.t 32) (.k (.int .i64 0))⟩, ⟨some 34, (some (30, true)), .mv (.t 33)⟩, ⟨some 35, (some (34, false)), .fa 1 (.t 7)⟩, ⟨some 36, (some (34, false)), .ld none (.t 35)⟩, ⟨some 37, (some (34, false)), .bin .gtr 0 (.t 36) (.k (.int .i64 65536))⟩, ⟨some 38, (some (30, true)), .pk (.t 34) (.k (.bool true)) (.t 37)⟩, ⟨some 39, (some (30, true)), .mv (.t 38)⟩, ⟨some 40, (some (39, false)), .mv (.t 0)⟩, ⟨some 41, (some (39, false)), .mv (.t 1)⟩, ⟨some 42, (some (39, false)), .fa 1 (.t 7)⟩, ⟨some 43, (some (39, false)), .ld none (.t 42)⟩, ⟨some 44, (some (39, false)), .call true 125 [(.t 40), (.t 41), (.t 43)]⟩, ⟨some 45, (some (30, true)), .pk (.t 39) (.k (.bool true)) (.t 44)⟩, ⟨some 46, none, .pk (.t 30) (.t 45) (.k (.bool false))⟩])
 (.cond (.t 46)
  (.seq (.reg [⟨some 6, none, .mv (.k (.bool false))⟩])
  .ret)
  .skip))
 (.seq (.reg [⟨some 47, none, .fa 11 (.t 7)⟩, ⟨some 48, none, .ld none (.t 47)⟩, ⟨some 49, none, .bin .geq 0 (.t 48) (.k (.int .i64 0))⟩, ⟨some 50, none, .mv (.t 49)⟩, ⟨some 51, (some (50, true)), .fa 11 (.t 7)⟩, ⟨some 52, (some (50, true)), .ld none (.t 51)⟩, ⟨some 53, (some (50, true)), .mv (.t 2)⟩, ⟨some 54, (some (50, true)), .bin .lss 0 (.t 52) (.t 53)⟩, ⟨some 55, none, .pk (.t 50) (.t 54) (.k (.bool false))⟩, ⟨some 56, none, .mv (.t 55)⟩, ⟨some 57, (some (56, true)), .fa 10 (.t 7)⟩, ⟨some 58, (some (56, true)), .ld none (.t 57)⟩, ⟨some 59, (some (56, true)), .bin .geq 0 (.t 58) (.k (.int .i64 0))⟩, ⟨some 60, none, .pk (.t 56) (.t 59) (.k (.bool false))⟩, ⟨some 61, none, .mv (.t 60)⟩, ⟨some 62, (some (61, true)), .fa 12 (.t 7)⟩, ⟨some 63, (some (61, true)), .ld none (.t 62)⟩, ⟨some 64, (some (61, true)), .bin .geq 0 (.t 63) (.k (.int .i64 0))⟩, ⟨some 65, none, .pk (.t 61) (.t 64) (.k (.bool false))⟩, ⟨some 66, none, .mv (.t 65)⟩, ⟨some 67, (some (66, true)), .fa 12 (.t 7)⟩, ⟨some 68, (some (66, true)), .ld none (.t 67)⟩, ⟨some 69, (some (66, true)), .bin .leq 0 (.t 68) (.k (.int .i64 1073741824))⟩, ⟨some 70, none, .pk (.t 66) (.t 69) (.k (.bool false))⟩, ⟨some 6, none, .mv (.t 70)⟩])
 .ret)))))
set_option maxRecDepth 100000 in
theorem er99 : (Try.f99.body.bind (erC Try.prog cfg 71)) = some c99 := by kernel_rfl
theorem in99 {args : List AV} {σ : St} {Q : AV → St → Prop} (hlen : args.length ≤ 71) (h : σ.Wf → (∀ i, i < args.length → Hab (args.getD i .undef)) → SWP Try.prog σ.next c99 (retQ σ.next [.t 6] Q) (fun i => args.getD i .undef) σ) : TQ Try.prog 99 args σ Q := by
 obtain ⟨k, hb, hk⟩ := Option.bind_eq_some_iff.1 er99
 exact TQ_of (fn := Try.f99) Try.func99 (by kernel_rfl) hb (erC_is mixed hk) (by kernel_rfl) hlen h

/-! parquetry/parquetryref18.count -/
def c100 : C :=
 (.seq (.reg [⟨some 8, none, .mv (.k (.int .i64 0))⟩])
 (.seq (.reg [⟨some 9, none, .mv (.k (.int .i64 0))⟩])
 (.seq (.seq (.reg [⟨some 12, none, .mv (.t 0)⟩, ⟨some 13, none, .ln false (.t 12)⟩, ⟨some 14, none, .mv (.k (.int .i64 0))⟩])
 (.block 0
  (.loop
   (.seq (.reg [⟨some 15, none, .bin .lss 0 (.t 14) (.t 13)⟩])
   (.seq (.cond (.t 15)
    .skip
    (.exit 0))
   (.seq (.block 1
    (.seq (.reg [⟨some 16, none, .ia 13 (.t 12) (.t 14)⟩, ⟨some 17, none, .ld (some 13) (.t 16)⟩, ⟨some 11, none, .al [.int .i64 0, .int .i64 0, .lit 1 [], .int .i64 0, .lit 1 [], .lit 1 [], .lit 1 [], .int .i64 0, .int .i64 0, .str ⟨#[]⟩, .int .i64 0, .int .i64 0, .int .i64 0]⟩, ⟨none, none, .st 13 (.t 11) (.t 17)⟩])
    (.seq (.reg [⟨some 18, none, .fa 0 (.t 11)⟩, ⟨some 19, none, .ld none (.t 18)⟩, ⟨some 20, none, .mv (.t 1)⟩, ⟨some 21, none, .bin .eql 0 (.t 19) (.t 20)⟩, ⟨some 22, none, .mv (.t 21)⟩, ⟨some 23, (some (22, true)), .fa 11 (.t 11)⟩, ⟨some 24, (some (22, true)), .ld none (.t 23)⟩, ⟨some 25, (some (22, true)), .mv (.t 2)⟩, ⟨some 26, (some (22, true)), .bin .eql 0 (.t 24) (.t 25)⟩, ⟨some 27, none, .pk (.t 22) (.t 26) (.k (.bool false))⟩, ⟨some 28, none, .mv (.t 27)⟩, ⟨some 29, (some (28, true)), .fa 12 (.t 11)⟩, ⟨some 30, (some (28, true)), .ld none (.t 29)⟩, ⟨some 31, (some (28, true)), .mv (.t 3)⟩, ⟨some 32, (some (28, true)), .bin .eql 0 (.t 30) (.t 31)⟩, ⟨some 33, none, .pk (.t 28) (.t 32) (.k (.bool false))⟩])
    (.cond (.t 33)
     (.reg [⟨some 34, none, .mv (.t 9)⟩, ⟨some 35, none, .bin .add 0 (.t 34) (.k (.int .i64 1))⟩, ⟨some 9, none, .mv (.t 35)⟩])
     .skip))))
   (.reg [⟨some 36, none, .bin .add 0 (.t 14) (.k (.int .i64 1))⟩, ⟨some 14, none, .mv (.t 36)⟩])))))))
 (.seq (.reg [⟨some 37, none, .mv (.t 9)⟩, ⟨some 8, none, .mv (.t 37)⟩])
 .ret))))
set_option maxRecDepth 100000 in
theorem er100 : (Try.f100.body.bind (erC Try.prog cfg 38)) = some c100 := by kernel_rfl
theorem in100 {args : List AV} {σ : St} {Q : AV → St → Prop} (hlen : args.length ≤ 38) (h : σ.Wf → (∀ i, i < args.length → Hab (args.getD i .undef)) → SWP Try.prog σ.next c100 (retQ σ.next [.t 8] Q) (fun i => args.getD i .undef) σ) : TQ Try.prog 100 args σ Q := by
 obtain ⟨k, hb, hk⟩ := Option.bind_eq_some_iff.1 er100
 exact TQ_of (fn := Try.f100) Try.func100 (by kernel_rfl) hb (erC_is mixed hk) (by kernel_rfl) hlen h

/-! parquetry/parquetrykeep.at -/
/-! parquetry/graph.CopyNode -/
def c102 : C :=
 (.seq (.reg [⟨some 1, none, .bx (.t 0)⟩, ⟨some 2, none, .al [.int .i64 0, .lit 1 [], .lit 1 [], .lit 1 [], .int .i64 0, .int .i64 0, .str ⟨#[]⟩]⟩])
 (.seq (.drs [⟨some 3, none, .fa 1 (.t 1)⟩, ⟨some 4, none, .ld none (.t 3)⟩, ⟨some 5, none, .call true 72 [(.t 4)]⟩, ⟨some 6, none, .fa 2 (.t 1)⟩, ⟨some 7, none, .ld none (.t 6)⟩, ⟨some 8, none, .call true 72 [(.t 7)]⟩, ⟨some 9, none, .fa 3 (.t 1)⟩, ⟨some 10, none, .ld none (.t 9)⟩, ⟨some 11, none, .call true 72 [(.t 10)]⟩, ⟨some 12, none, .fa 1 (.t 1)⟩, ⟨none, none, .st 1 (.t 12) (.t 5)⟩, ⟨some 13, none, .fa 2 (.t 1)⟩, ⟨none, none, .st 1 (.t 13) (.t 8)⟩, ⟨some 14, none, .fa 3 (.t 1)⟩, ⟨none, none, .st 1 (.t 14) (.t 11)⟩])
 (.seq (.reg [⟨some 15, none, .ld (some 7) (.t 1)⟩, ⟨none, none, .st 7 (.t 2) (.t 15)⟩])
 .ret)))
set_option maxRecDepth 100000 in
theorem er102 : (Try.f102.body.bind (erC Try.prog cfg 16)) = some c102 := by kernel_rfl
theorem in102 {args : List AV} {σ : St} {Q : AV → St → Prop} (hlen : args.length ≤ 16) (h : σ.Wf → (∀ i, i < args.length → Hab (args.getD i .undef)) → SWP Try.prog σ.next c102 (retQ σ.next [.c (some 7) 2] Q) (fun i => args.getD i .undef) σ) : TQ Try.prog 102 args σ Q := by
 obtain ⟨k, hb, hk⟩ := Option.bind_eq_some_iff.1 er102
 exact TQ_of (fn := Try.f102) Try.func102 (by kernel_rfl) hb (erC_is mixed hk) (by kernel_rfl) hlen h

/-! slices.IndexFunc[[]parquetry/api.Program,parquetry/api.Program] -/
/-! parquetry/code.shaped -/
/-! parquetry/code.placed -/
/-! (*parquetry/parquetrykeep.Tape).Number -/
def c106 : C :=
 (.seq (.reg [⟨some 2, none, .mv (.k (.int .i64 0))⟩])
 (.seq (.seq (.reg [⟨some 3, none, .mv (.t 0)⟩, ⟨some 4, none, .call false 53 [(.t 3), (.k (.int .i64 9))]⟩])
 (.block 0
  (.seq (.reg [⟨some 6, none, .bin .eql 0 (.t 4) (.k (.int .i64 0))⟩, ⟨some 5, none, .mv (.t 6)⟩])
  (.cond (.t 5)
   (.seq (.reg [⟨some 7, none, .bs false 1 [.int .i64 0] 6 [(0, (.k (.int .i64 9223372036854775807))), (1, (.k (.int .i64 (-9223372036854775808)))), (2, (.k (.int .i64 4611686018427387904))), (3, (.k (.int .i64 (-1099511627776)))), (4, (.k (.int .i64 8589934592))), (5, (.k (.int .i64 3037000500)))]⟩, ⟨some 8, none, .mv (.t 0)⟩, ⟨some 9, none, .call false 53 [(.t 8), (.k (.int .i64 6))]⟩, ⟨some 10, none, .ia 1 (.t 7) (.t 9)⟩, ⟨some 11, none, .ld none (.t 10)⟩, ⟨some 2, none, .mv (.t 11)⟩])
   .ret)
   (.seq (.reg [⟨some 13, none, .bin .eql 0 (.t 4) (.k (.int .i64 1))⟩, ⟨some 12, none, .mv (.t 13)⟩])
   (.cond (.t 12)
    (.seq (.reg [⟨some 2, none, .mv (.k (.int .i64 0))⟩])
    .ret)
    .skip))))))
 (.seq (.reg [⟨some 14, none, .mv (.t 0)⟩, ⟨some 15, none, .call false 53 [(.t 14), (.k (.int .i64 19))]⟩, ⟨some 16, none, .bin .sub 0 (.t 15) (.k (.int .i64 9))⟩, ⟨some 2, none, .mv (.t 16)⟩])
 .ret)))
set_option maxRecDepth 100000 in
theorem er106 : (Try.f106.body.bind (erC Try.prog cfg 17)) = some c106 := by kernel_rfl
theorem in106 {args : List AV} {σ : St} {Q : AV → St → Prop} (hlen : args.length ≤ 17) (h : σ.Wf → (∀ i, i < args.length → Hab (args.getD i .undef)) → SWP Try.prog σ.next c106 (retQ σ.next [.t 2] Q) (fun i => args.getD i .undef) σ) : TQ Try.prog 106 args σ Q := by
 obtain ⟨k, hb, hk⟩ := Option.bind_eq_some_iff.1 er106
 exact TQ_of (fn := Try.f106) Try.func106 (by kernel_rfl) hb (erC_is mixed hk) (by kernel_rfl) hlen h

/-! parquetry/parquetryref18.bare -/
def c124 : C :=
 (.seq (.reg [⟨some 1, none, .bx (.t 0)⟩, ⟨some 2, none, .mv (.k (.bool false))⟩])
 (.seq (.reg [⟨some 3, none, .fa 0 (.t 1)⟩, ⟨some 4, none, .ld none (.t 3)⟩, ⟨some 5, none, .bin .eql 0 (.t 4) (.k (.int .i64 0))⟩, ⟨some 6, none, .mv (.t 5)⟩, ⟨some 7, (some (6, true)), .fa 1 (.t 1)⟩, ⟨some 8, (some (6, true)), .ld none (.t 7)⟩, ⟨some 9, (some (6, true)), .ln false (.t 8)⟩, ⟨some 10, (some (6, true)), .fa 2 (.t 1)⟩, ⟨some 11, (some (6, true)), .ld none (.t 10)⟩, ⟨some 12, (some (6, true)), .ln false (.t 11)⟩, ⟨some 13, (some (6, true)), .bin .add 0 (.t 9) (.t 12)⟩, ⟨some 14, (some (6, true)), .fa 3 (.t 1)⟩, ⟨some 15, (some (6, true)), .ld none (.t 14)⟩, ⟨some 16, (some (6, true)), .ln false (.t 15)⟩, ⟨some 17, (some (6, true)), .bin .add 0 (.t 13) (.t 16)⟩, ⟨some 18, (some (6, true)), .bin .eql 0 (.t 17) (.k (.int .i64 0))⟩, ⟨some 19, none, .pk (.t 6) (.t 18) (.k (.bool false))⟩, ⟨some 20, none, .mv (.t 19)⟩, ⟨some 21, (some (20, true)), .fa 4 (.t 1)⟩, ⟨some 22, (some (20, true)), .ld none (.t 21)⟩, ⟨some 23, (some (20, true)), .bin .eql 0 (.t 22) (.k (.int .i64 0))⟩, ⟨some 24, none, .pk (.t 20) (.t 23) (.k (.bool false))⟩, ⟨some 25, none, .mv (.t 24)⟩, ⟨some 26, (some (25, true)), .fa 5 (.t 1)⟩, ⟨some 27, (some (25, true)), .ld none (.t 26)⟩, ⟨some 28, (some (25, true)), .bin .eql 0 (.t 27) (.k (.int .i64 0))⟩, ⟨some 29, none, .pk (.t 25) (.t 28) (.k (.bool false))⟩, ⟨some 30, none, .mv (.t 29)⟩, ⟨some 31, (some (30, true)), .fa 6 (.t 1)⟩, ⟨some 32, (some (30, true)), .ld none (.t 31)⟩, ⟨some 33, (some (30, true)), .bin .eql 0 (.t 32) (.k (.str ⟨#[]⟩))⟩, ⟨some 34, none, .pk (.t 30) (.t 33) (.k (.bool false))⟩, ⟨some 2, none, .mv (.t 34)⟩])
 .ret))
set_option maxRecDepth 100000 in
theorem er124 : (Try.f124.body.bind (erC Try.prog cfg 35)) = some c124 := by kernel_rfl
theorem in124 {args : List AV} {σ : St} {Q : AV → St → Prop} (hlen : args.length ≤ 35) (h : σ.Wf → (∀ i, i < args.length → Hab (args.getD i .undef)) → SWP Try.prog σ.next c124 (retQ σ.next [.t 2] Q) (fun i => args.getD i .undef) σ) : TQ Try.prog 124 args σ Q := by
 obtain ⟨k, hb, hk⟩ := Option.bind_eq_some_iff.1 er124
 exact TQ_of (fn := Try.f124) Try.func124 (by kernel_rfl) hb (erC_is mixed hk) (by kernel_rfl) hlen h

/-! parquetry/parquetryref18.written -/
def c125 : C :=
 (.seq (.reg [⟨some 6, none, .mv (.k (.bool false))⟩])
 (.seq (.seq (.reg [⟨some 7, none, .mv (.k (.int .i64 0))⟩])
 (.block 0
  (.loop
   (.seq (.seq (.reg [⟨some 8, none, .mv (.t 7)⟩, ⟨some 9, none, .mv (.t 1)⟩, ⟨some 10, none, .bin .lss 0 (.t 8) (.t 9)⟩])
   (.cond (.t 10)
    .skip
    (.exit 0)))
   (.seq (.block 1
    (.seq (.reg [⟨some 13, none, .mv (.t 0)⟩, ⟨some 14, none, .mv (.t 7)⟩, ⟨some 15, none, .ia 13 (.t 13) (.t 14)⟩, ⟨some 16, none, .fa 0 (.t 15)⟩, ⟨some 17, none, .ld none (.t 16)⟩, ⟨some 18, none, .bin .neq 0 (.t 17) (.k (.int .i64 3))⟩, ⟨some 19, none, .mv (.t 18)⟩, ⟨some 20, (some (19, true)), .mv (.t 0)⟩, ⟨some 21, (some (19, true)), .mv (.t 7)⟩, ⟨some 22, (some (19, true)), .ia 13 (.t 20) (.t 21)⟩, ⟨some 23, (some (19, true)), .fa 1 (.t 22)⟩, ⟨some 24, (some (19, true)), .ld none (.t 23)⟩, ⟨some 25, (some (19, true)), .mv (.t 2)⟩, ⟨some 26, (some (19, true)), .bin .eql 0 (.t 24) (.t 25)⟩, ⟨some 27, none, .pk (.t 19) (.t 26) (.k (.bool false))⟩])
    (.cond (.t 27)
     (.seq (.reg [⟨some 6, none, .mv (.k (.bool true))⟩])
     .ret)
     .skip)))
   (.reg [⟨some 11, none, .mv (.t 7)⟩, ⟨some 12, none, .bin .add 0 (.t 11) (.k (.int .i64 1))⟩, ⟨some 7, none, .mv (.t 12)⟩]))))))
 (.seq (.reg [⟨some 6, none, .mv (.k (.bool false))⟩])
 .ret)))
set_option maxRecDepth 100000 in
theorem er125 : (Try.f125.body.bind (erC Try.prog cfg 28)) = some c125 := by kernel_rfl
theorem in125 {args : List AV} {σ : St} {Q : AV → St → Prop} (hlen : args.length ≤ 28) (h : σ.Wf → (∀ i, i < args.length → Hab (args.getD i .undef)) → SWP Try.prog σ.next c125 (retQ σ.next [.t 6] Q) (fun i => args.getD i .undef) σ) : TQ Try.prog 125 args σ Q := by
 obtain ⟨k, hb, hk⟩ := Option.bind_eq_some_iff.1 er125
 exact TQ_of (fn := Try.f125) Try.func125 (by kernel_rfl) hb (erC_is mixed hk) (by kernel_rfl) hlen h

/-! parquetry/code.zeroNode -/
/-! parquetry/graph.SameNode -/
/-! slices.Equal[[]int,int] -/
end Go.Proofs.Ytfjbabacpnnjmaa.Av
