/- A logic of small values, and walks in it: The code of some functions in few words, and that it is the program's. Printed by a program. Counting loops. -/
import Derived.Test.YtdmbgnppbchgcaaAv3
import Derived.Test.YtdmbgnppbchgcaaProg
import Derived.KernelRfl
set_option linter.unusedVariables false
set_option linter.unusedSimpArgs false
set_option linter.deprecated false
namespace Go.Proofs.Ytdmbgnppbchgcaa.Av
open Go Go.Av

def cfg : Cfg := { data := fun t => ([27, 28] : List Nat).contains t, quiet := fun f => !([7, 8, 9, 10, 12, 13, 14, 17, 18, 20, 23, 25, 35, 36, 38] : List Nat).contains f, quietv := fun _ => true, own := fun _ => false }
theorem mixed : Try.prog.follows .mixedOrders = true := by kernel_rfl

/-! parquetry/parquetrylaw3.DatumCopies -/
def c3 : C :=
  (.seq (.reg [⟨some 4, none, .mv (.k (.bool false))⟩])
  (.seq (.reg [⟨some 15, none, .mv (.t 1)⟩, ⟨some 16, none, .bd [.nils, .int .i64 0] [(0, 1, (.t 15))]⟩, ⟨some 17, none, .bx (.t 16)⟩, ⟨some 5, none, .mv (.t 17)⟩])
  (.seq (.reg [⟨some 18, none, .mv (.t 5)⟩, ⟨some 19, none, .mv (.t 5)⟩, ⟨some 20, none, .call false 8 [(.t 19)]⟩, ⟨some 21, none, .call false 7 [(.t 18), (.t 20)]⟩, ⟨some 6, none, .al [.lit 1 [], .lit 1 []]⟩, ⟨none, none, .st 2 (.t 6) (.t 21)⟩])
  (.seq (.seq (.reg [⟨some 22, none, .mv (.t 0)⟩, ⟨some 23, none, .ln false (.t 22)⟩, ⟨some 24, none, .bin .gtr 0 (.t 23) (.k (.int .i64 20))⟩])
  (.cond (.t 24)
    (.reg [⟨some 25, none, .mv (.t 0)⟩, ⟨some 26, none, .sc 1 (.t 25) none (some (.k (.int .i64 20))) none⟩, ⟨some 0, none, .mv (.t 26)⟩])
    .skip))
  (.seq (.dr [[], [], [0, 1], [], [], [4], [3, 5, 2, 4, 0, 1], [2, 6, 0, 1, 3, 5, 4], [6, 7, 0, 1, 2, 3, 4, 5]] [⟨some 27, none, .bs false 1 [.int .i64 0] 0 []⟩, ⟨some 28, none, .mv (.t 0)⟩, ⟨some 29, none, .ap 1 8 (.t 27) (.t 28)⟩, ⟨some 30, none, .bs false 1 [.int .i64 0] 0 []⟩, ⟨some 31, none, .fa 1 (.t 6)⟩, ⟨some 32, none, .ld none (.t 31)⟩, ⟨some 33, none, .ap 1 8 (.t 30) (.t 32)⟩, ⟨some 7, none, .mv (.t 29)⟩, ⟨some 8, none, .mv (.t 33)⟩])
  (.seq (.reg [⟨some 35, none, .mv (.t 0)⟩, ⟨some 36, none, .mi 22 (.t 35)⟩, ⟨some 37, none, .call false 9 [(.t 36)]⟩, ⟨some 34, none, .mv (.t 37)⟩, ⟨some 38, none, .ex (.t 34) 0⟩, ⟨some 39, none, .ex (.t 34) 1⟩, ⟨some 9, none, .al [.lit 1 [], .lit 1 []]⟩, ⟨none, none, .st 2 (.t 9) (.t 38)⟩, ⟨some 10, none, .mv (.t 39)⟩])
  (.seq (.reg [⟨some 41, none, .mi 33 (.t 6)⟩, ⟨some 42, none, .call false 9 [(.t 41)]⟩, ⟨some 40, none, .mv (.t 42)⟩, ⟨some 43, none, .ex (.t 40) 0⟩, ⟨some 44, none, .ex (.t 40) 1⟩, ⟨some 11, none, .al [.lit 1 [], .lit 1 []]⟩, ⟨none, none, .st 2 (.t 11) (.t 43)⟩, ⟨some 12, none, .mv (.t 44)⟩])
  (.seq (.seq (.reg [⟨some 45, none, .fa 1 (.t 9)⟩, ⟨some 46, none, .ld none (.t 45)⟩, ⟨some 47, none, .ln false (.t 46)⟩, ⟨some 48, none, .mv (.k (.int .i64 0))⟩])
  (.block 0
    (.loop
      (.seq (.reg [⟨some 49, none, .bin .lss 0 (.t 48) (.t 47)⟩])
      (.seq (.cond (.t 49)
        .skip
        (.exit 0))
      (.seq (.block 1
        (.seq (.reg [⟨some 50, none, .mv (.t 48)⟩, ⟨some 13, none, .mv (.t 50)⟩])
        (.reg [⟨some 51, none, .fa 1 (.t 9)⟩, ⟨some 52, none, .ld none (.t 51)⟩, ⟨some 53, none, .mv (.t 13)⟩, ⟨some 54, none, .ia 1 (.t 52) (.t 53)⟩, ⟨some 55, none, .ld none (.t 54)⟩, ⟨some 56, none, .bin .add 0 (.t 55) (.k (.int .i64 1))⟩, ⟨some 57, none, .ia 1 (.t 52) (.t 53)⟩, ⟨none, none, .st 1 (.t 57) (.t 56)⟩])))
      (.reg [⟨some 58, none, .bin .add 0 (.t 48) (.k (.int .i64 1))⟩, ⟨some 48, none, .mv (.t 58)⟩])))))))
  (.seq (.seq (.reg [⟨some 59, none, .fa 1 (.t 11)⟩, ⟨some 60, none, .ld none (.t 59)⟩, ⟨some 61, none, .ln false (.t 60)⟩, ⟨some 62, none, .mv (.k (.int .i64 0))⟩])
  (.block 2
    (.loop
      (.seq (.reg [⟨some 63, none, .bin .lss 0 (.t 62) (.t 61)⟩])
      (.seq (.cond (.t 63)
        .skip
        (.exit 2))
      (.seq (.block 3
        (.seq (.reg [⟨some 64, none, .mv (.t 62)⟩, ⟨some 14, none, .mv (.t 64)⟩])
        (.reg [⟨some 65, none, .fa 1 (.t 11)⟩, ⟨some 66, none, .ld none (.t 65)⟩, ⟨some 67, none, .mv (.t 14)⟩, ⟨some 68, none, .ia 1 (.t 66) (.t 67)⟩, ⟨some 69, none, .ld none (.t 68)⟩, ⟨some 70, none, .bin .add 0 (.t 69) (.k (.int .i64 1))⟩, ⟨some 71, none, .ia 1 (.t 66) (.t 67)⟩, ⟨none, none, .st 1 (.t 71) (.t 70)⟩])))
      (.reg [⟨some 72, none, .bin .add 0 (.t 62) (.k (.int .i64 1))⟩, ⟨some 62, none, .mv (.t 72)⟩])))))))
  (.seq (.reg [⟨some 73, none, .mv (.t 10)⟩, ⟨some 74, none, .mv (.t 73)⟩, ⟨some 75, (some (74, true)), .mv (.t 12)⟩, ⟨some 76, none, .pk (.t 74) (.t 75) (.k (.bool false))⟩, ⟨some 77, none, .mv (.t 76)⟩, ⟨some 78, (some (77, true)), .fa 1 (.t 9)⟩, ⟨some 79, (some (77, true)), .ld none (.t 78)⟩, ⟨some 80, (some (77, true)), .ln false (.t 79)⟩, ⟨some 81, (some (77, true)), .mv (.t 0)⟩, ⟨some 82, (some (77, true)), .ln false (.t 81)⟩, ⟨some 83, (some (77, true)), .bin .eql 0 (.t 80) (.t 82)⟩, ⟨some 84, none, .pk (.t 77) (.t 83) (.k (.bool false))⟩, ⟨some 85, none, .mv (.t 84)⟩, ⟨some 86, (some (85, true)), .fa 1 (.t 11)⟩, ⟨some 87, (some (85, true)), .ld none (.t 86)⟩, ⟨some 88, (some (85, true)), .ln false (.t 87)⟩, ⟨some 89, (some (85, true)), .fa 1 (.t 6)⟩, ⟨some 90, (some (85, true)), .ld none (.t 89)⟩, ⟨some 91, (some (85, true)), .ln false (.t 90)⟩, ⟨some 92, (some (85, true)), .bin .eql 0 (.t 88) (.t 91)⟩, ⟨some 93, none, .pk (.t 85) (.t 92) (.k (.bool false))⟩, ⟨some 94, none, .mv (.t 93)⟩, ⟨some 95, (some (94, true)), .mv (.t 0)⟩, ⟨some 96, (some (94, true)), .mv (.t 7)⟩, ⟨some 97, (some (94, true)), .call false 10 [(.t 95), (.t 96)]⟩, ⟨some 98, none, .pk (.t 94) (.t 97) (.k (.bool false))⟩, ⟨some 99, none, .mv (.t 98)⟩, ⟨some 100, (some (99, true)), .fa 1 (.t 6)⟩, ⟨some 101, (some (99, true)), .ld none (.t 100)⟩, ⟨some 102, (some (99, true)), .mv (.t 8)⟩, ⟨some 103, (some (99, true)), .call false 10 [(.t 101), (.t 102)]⟩, ⟨some 104, none, .pk (.t 99) (.t 103) (.k (.bool false))⟩, ⟨some 105, none, .mv (.t 104)⟩, ⟨some 106, (some (105, true)), .call true 11 []⟩, ⟨some 107, none, .pk (.t 105) (.t 106) (.k (.bool false))⟩, ⟨some 4, none, .mv (.t 107)⟩])
  .ret))))))))))
set_option maxRecDepth 100000 in
theorem er3 : (Try.f3.body.bind (erC Try.prog cfg 108)) = some c3 := by kernel_rfl
theorem in3 {args : List AV} {σ : St} {Q : AV → St → Prop} (hlen : args.length ≤ 108) (h : σ.Wf → (∀ i, i < args.length → Hab (args.getD i .undef)) → SWP Try.prog σ.next c3 (retQ σ.next [.t 4] Q) (fun i => args.getD i .undef) σ) : TQ Try.prog 3 args σ Q := by
  obtain ⟨k, hb, hk⟩ := Option.bind_eq_some_iff.1 er3
  exact TQ_of (fn := Try.f3) Try.func3 (by kernel_rfl) hb (erC_is mixed hk) (by kernel_rfl) hlen h

/-! parquetry/parquetrylaw3.DatumTells -/
def c5 : C :=
  (.seq (.reg [⟨some 9, none, .bx (.t 4)⟩, ⟨some 10, none, .mv (.k (.bool false))⟩])
  (.seq (.reg [⟨some 12, none, .mv (.t 3)⟩, ⟨some 13, none, .bd [.nils, .int .i64 0] [(0, 1, (.t 12))]⟩, ⟨some 14, none, .bx (.t 13)⟩, ⟨some 11, none, .mv (.t 14)⟩])
  (.seq (.seq (.reg [⟨some 15, none, .mv (.t 2)⟩, ⟨some 16, none, .ln true (.t 15)⟩, ⟨some 17, none, .bin .gtr 0 (.t 16) (.k (.int .i64 60))⟩])
  (.cond (.t 17)
    (.reg [⟨some 18, none, .mv (.t 2)⟩, ⟨some 19, none, .sc 0 (.t 18) none (some (.k (.int .i64 60))) none⟩, ⟨some 2, none, .mv (.t 19)⟩])
    .skip))
  (.seq (.reg [⟨some 20, none, .mv (.t 0)⟩, ⟨some 21, none, .mv (.t 1)⟩, ⟨some 22, none, .mv (.t 2)⟩, ⟨some 23, none, .mv (.t 11)⟩, ⟨some 24, none, .mv (.t 11)⟩, ⟨some 25, none, .call false 8 [(.t 24)]⟩, ⟨some 26, none, .call false 7 [(.t 23), (.t 25)]⟩, ⟨some 27, none, .call false 12 [(.t 20), (.t 21), (.t 22), (.t 26)]⟩, ⟨some 28, none, .mv (.t 27)⟩, ⟨some 29, (some (28, true)), .mv (.t 0)⟩, ⟨some 30, (some (28, true)), .mv (.t 1)⟩, ⟨some 31, (some (28, true)), .mv (.t 2)⟩, ⟨some 32, (some (28, true)), .ld (some 2) (.t 9)⟩, ⟨some 33, (some (28, true)), .call false 12 [(.t 29), (.t 30), (.t 31), (.t 32)]⟩, ⟨some 34, none, .pk (.t 28) (.t 33) (.k (.bool false))⟩, ⟨some 35, none, .mv (.t 34)⟩, ⟨some 36, (some (35, true)), .call true 11 []⟩, ⟨some 37, none, .pk (.t 35) (.t 36) (.k (.bool false))⟩, ⟨some 10, none, .mv (.t 37)⟩])
  .ret))))
set_option maxRecDepth 100000 in
theorem er5 : (Try.f5.body.bind (erC Try.prog cfg 38)) = some c5 := by kernel_rfl
theorem in5 {args : List AV} {σ : St} {Q : AV → St → Prop} (hlen : args.length ≤ 38) (h : σ.Wf → (∀ i, i < args.length → Hab (args.getD i .undef)) → SWP Try.prog σ.next c5 (retQ σ.next [.t 10] Q) (fun i => args.getD i .undef) σ) : TQ Try.prog 5 args σ Q := by
  obtain ⟨k, hb, hk⟩ := Option.bind_eq_some_iff.1 er5
  exact TQ_of (fn := Try.f5) Try.func5 (by kernel_rfl) hb (erC_is mixed hk) (by kernel_rfl) hlen h

/-! parquetry/parquetrylaw3.DatumCounts -/
def c6 : C :=
  (.seq (.reg [⟨some 6, none, .mv (.k (.bool false))⟩])
  (.seq (.reg [⟨some 15, none, .mv (.t 2)⟩, ⟨some 16, none, .bin .and 0 (.t 15) (.k (.int .i64 7))⟩, ⟨some 7, none, .mv (.t 16)⟩])
  (.seq (.reg [⟨some 8, none, .mv (.k (.nils))⟩])
  (.seq (.seq (.reg [⟨some 9, none, .mv (.k (.int .i64 0))⟩])
  (.block 0
    (.loop
      (.seq (.seq (.reg [⟨some 17, none, .mv (.t 9)⟩, ⟨some 18, none, .mv (.t 7)⟩, ⟨some 19, none, .bin .lss 0 (.t 17) (.t 18)⟩])
      (.cond (.t 19)
        .skip
        (.exit 0)))
      (.seq (.block 1
        (.reg [⟨some 22, none, .mv (.t 8)⟩, ⟨some 23, none, .mv (.t 9)⟩, ⟨some 24, none, .mi 2 (.t 23)⟩, ⟨some 25, none, .mv (.t 0)⟩, ⟨some 26, none, .mi 22 (.t 25)⟩, ⟨some 27, none, .mv (.t 1)⟩, ⟨some 28, none, .mi 9 (.t 27)⟩, ⟨some 29, none, .mi 4 (.k (.bool true))⟩, ⟨some 30, none, .mv (.t 0)⟩, ⟨some 31, none, .bd [.lit 1 [], .lit 1 []] [(1, 1, (.t 30))]⟩, ⟨some 32, none, .mi 28 (.t 31)⟩, ⟨some 33, none, .bs false 1 [.niliface] 0 []⟩, ⟨some 34, none, .mi 42 (.t 33)⟩, ⟨some 35, none, .bs false 1 [.niliface] 7 [(0, (.t 24)), (1, (.t 26)), (2, (.t 28)), (3, (.k (.niliface))), (4, (.t 29)), (5, (.t 32)), (6, (.t 34))]⟩, ⟨some 36, none, .mv (.t 9)⟩, ⟨some 37, none, .bin .rem 0 (.t 36) (.k (.int .i64 7))⟩, ⟨some 38, none, .ia 1 (.t 35) (.t 37)⟩, ⟨some 39, none, .ld none (.t 38)⟩, ⟨some 40, none, .bs false 1 [.niliface] 1 [(0, (.t 39))]⟩, ⟨some 41, none, .ap 1 16 (.t 22) (.t 40)⟩, ⟨some 8, none, .mv (.t 41)⟩]))
      (.reg [⟨some 20, none, .mv (.t 9)⟩, ⟨some 21, none, .bin .add 0 (.t 20) (.k (.int .i64 1))⟩, ⟨some 9, none, .mv (.t 21)⟩]))))))
  (.seq (.reg [⟨some 42, none, .mv (.t 8)⟩, ⟨some 43, none, .call true 15 [(.t 42)]⟩, ⟨some 44, none, .bs false 1 [.niliface] 0 []⟩, ⟨some 45, none, .mv (.t 8)⟩, ⟨some 46, none, .ap 1 16 (.t 44) (.t 45)⟩, ⟨some 47, none, .mv (.t 8)⟩, ⟨some 48, none, .ap 1 16 (.t 46) (.t 47)⟩, ⟨some 49, none, .call true 15 [(.t 48)]⟩, ⟨some 10, none, .mv (.t 43)⟩, ⟨some 11, none, .mv (.t 49)⟩])
  (.seq (.seq (.reg [⟨some 50, none, .mv (.t 10)⟩, ⟨some 51, none, .ln false (.t 50)⟩, ⟨some 52, none, .bin .neq 0 (.t 51) (.k (.int .i64 6))⟩, ⟨some 53, none, .mv (.t 52)⟩, ⟨some 54, (some (53, false)), .mv (.t 11)⟩, ⟨some 55, (some (53, false)), .ln false (.t 54)⟩, ⟨some 56, (some (53, false)), .bin .neq 0 (.t 55) (.k (.int .i64 6))⟩, ⟨some 57, none, .pk (.t 53) (.k (.bool true)) (.t 56)⟩])
  (.cond (.t 57)
    (.seq (.reg [⟨some 6, none, .mv (.k (.bool false))⟩])
    .ret)
    .skip))
  (.seq (.reg [⟨some 12, none, .mv (.k (.int .i64 0))⟩])
  (.seq (.seq (.reg [⟨some 58, none, .mv (.t 10)⟩, ⟨some 59, none, .ln false (.t 58)⟩, ⟨some 60, none, .mv (.k (.int .i64 0))⟩])
  (.block 2
    (.loop
      (.seq (.reg [⟨some 61, none, .bin .lss 0 (.t 60) (.t 59)⟩])
      (.seq (.cond (.t 61)
        .skip
        (.exit 2))
      (.seq (.block 3
        (.seq (.reg [⟨some 62, none, .mv (.t 60)⟩, ⟨some 13, none, .mv (.t 62)⟩])
        (.seq (.reg [⟨some 63, none, .mv (.t 12)⟩, ⟨some 64, none, .mv (.t 10)⟩, ⟨some 65, none, .mv (.t 13)⟩, ⟨some 66, none, .ia 1 (.t 64) (.t 65)⟩, ⟨some 67, none, .ld none (.t 66)⟩, ⟨some 68, none, .bin .add 0 (.t 63) (.t 67)⟩, ⟨some 12, none, .mv (.t 68)⟩])
        (.seq (.drs [⟨some 69, none, .mv (.t 11)⟩, ⟨some 70, none, .mv (.t 13)⟩, ⟨some 71, none, .ia 1 (.t 69) (.t 70)⟩, ⟨some 72, none, .ld none (.t 71)⟩, ⟨some 73, none, .mv (.t 10)⟩, ⟨some 74, none, .mv (.t 13)⟩, ⟨some 75, none, .ia 1 (.t 73) (.t 74)⟩, ⟨some 76, none, .ld none (.t 75)⟩, ⟨some 77, none, .bin .mul 0 (.k (.int .i64 2)) (.t 76)⟩, ⟨some 78, none, .bin .neq 0 (.t 72) (.t 77)⟩])
        (.cond (.t 78)
          (.seq (.reg [⟨some 6, none, .mv (.k (.bool false))⟩])
          .ret)
          .skip)))))
      (.reg [⟨some 79, none, .bin .add 0 (.t 60) (.k (.int .i64 1))⟩, ⟨some 60, none, .mv (.t 79)⟩])))))))
  (.seq (.seq (.reg [⟨some 80, none, .mv (.t 8)⟩, ⟨some 81, none, .ln false (.t 80)⟩, ⟨some 82, none, .mv (.k (.int .i64 0))⟩])
  (.block 4
    (.loop
      (.seq (.reg [⟨some 83, none, .bin .lss 0 (.t 82) (.t 81)⟩])
      (.seq (.cond (.t 83)
        .skip
        (.exit 4))
      (.seq (.block 5
        (.seq (.reg [⟨some 84, none, .mv (.t 82)⟩, ⟨some 14, none, .mv (.t 84)⟩])
        (.seq (.reg [⟨some 85, none, .mv (.t 8)⟩, ⟨some 86, none, .mv (.t 14)⟩, ⟨some 87, none, .ia 1 (.t 85) (.t 86)⟩, ⟨some 88, none, .ld none (.t 87)⟩, ⟨some 89, none, .call true 16 [(.t 88)]⟩, ⟨some 90, none, .bin .lss 0 (.t 89) (.k (.int .i64 0))⟩, ⟨some 91, none, .mv (.t 90)⟩, ⟨some 92, (some (91, false)), .mv (.t 8)⟩, ⟨some 93, (some (91, false)), .mv (.t 14)⟩, ⟨some 94, (some (91, false)), .ia 1 (.t 92) (.t 93)⟩, ⟨some 95, (some (91, false)), .ld none (.t 94)⟩, ⟨some 96, (some (91, false)), .call true 16 [(.t 95)]⟩, ⟨some 97, (some (91, false)), .bin .gtr 0 (.t 96) (.k (.int .i64 5))⟩, ⟨some 98, none, .pk (.t 91) (.k (.bool true)) (.t 97)⟩, ⟨some 99, none, .mv (.t 98)⟩, ⟨some 100, (some (99, false)), .mv (.t 10)⟩, ⟨some 101, (some (99, false)), .mv (.t 8)⟩, ⟨some 102, (some (99, false)), .mv (.t 14)⟩, ⟨some 103, (some (99, false)), .ia 1 (.t 101) (.t 102)⟩, ⟨some 104, (some (99, false)), .ld none (.t 103)⟩, ⟨some 105, (some (99, false)), .call true 16 [(.t 104)]⟩, ⟨some 106, (some (99, false)), .ia 1 (.t 100) (.t 105)⟩, ⟨some 107, (some (99, false)), .ld none (.t 106)⟩, ⟨some 108, (some (99, false)), .bin .lss 0 (.t 107) (.k (.int .i64 1))⟩, ⟨some 109, none, .pk (.t 99) (.k (.bool true)) (.t 108)⟩])
        (.cond (.t 109)
          (.seq (.reg [⟨some 6, none, .mv (.k (.bool false))⟩])
          .ret)
          .skip))))
      (.reg [⟨some 110, none, .bin .add 0 (.t 82) (.k (.int .i64 1))⟩, ⟨some 82, none, .mv (.t 110)⟩])))))))
  (.seq (.reg [⟨some 111, none, .mv (.t 12)⟩, ⟨some 112, none, .mv (.t 7)⟩, ⟨some 113, none, .bin .eql 0 (.t 111) (.t 112)⟩, ⟨some 114, none, .mv (.t 113)⟩, ⟨some 115, (some (114, true)), .call true 11 []⟩, ⟨some 116, none, .pk (.t 114) (.t 115) (.k (.bool false))⟩, ⟨some 6, none, .mv (.t 116)⟩])
  .ret))))))))))
set_option maxRecDepth 100000 in
theorem er6 : (Try.f6.body.bind (erC Try.prog cfg 117)) = some c6 := by kernel_rfl
theorem in6 {args : List AV} {σ : St} {Q : AV → St → Prop} (hlen : args.length ≤ 117) (h : σ.Wf → (∀ i, i < args.length → Hab (args.getD i .undef)) → SWP Try.prog σ.next c6 (retQ σ.next [.t 6] Q) (fun i => args.getD i .undef) σ) : TQ Try.prog 6 args σ Q := by
  obtain ⟨k, hb, hk⟩ := Option.bind_eq_some_iff.1 er6
  exact TQ_of (fn := Try.f6) Try.func6 (by kernel_rfl) hb (erC_is mixed hk) (by kernel_rfl) hlen h

/-! (*parquetry/parquetrykeep.Tape).Tensor -/
def c7 : C :=
  (.seq (.reg [⟨some 4, none, .al [.lit 1 [], .lit 1 []]⟩])
  (.seq (.reg [⟨some 7, none, .mv (.t 1)⟩, ⟨some 8, none, .call false 13 [(.t 7), (.k (.int .i64 0))]⟩, ⟨some 5, none, .al [.lit 1 [], .lit 1 []]⟩, ⟨none, none, .st 2 (.t 5) (.t 8)⟩])
  (.seq (.seq (.reg [⟨some 9, none, .fa 1 (.t 5)⟩, ⟨some 10, none, .ld none (.t 9)⟩, ⟨some 11, none, .ln false (.t 10)⟩, ⟨some 12, none, .mv (.k (.int .i64 0))⟩])
  (.block 0
    (.loop
      (.seq (.reg [⟨some 13, none, .bin .lss 0 (.t 12) (.t 11)⟩])
      (.seq (.cond (.t 13)
        .skip
        (.exit 0))
      (.seq (.block 1
        (.seq (.reg [⟨some 14, none, .mv (.t 12)⟩, ⟨some 6, none, .mv (.t 14)⟩])
        (.dr [[], [0], [], [], [3], [1, 2, 0, 3, 4], [5, 4, 0, 1, 2, 3]] [⟨some 15, none, .fa 1 (.t 5)⟩, ⟨some 16, none, .ld none (.t 15)⟩, ⟨some 17, none, .mv (.t 6)⟩, ⟨some 18, none, .mv (.t 0)⟩, ⟨some 19, none, .call false 17 [(.t 18)]⟩, ⟨some 20, none, .ia 1 (.t 16) (.t 17)⟩, ⟨none, none, .st 1 (.t 20) (.t 19)⟩])))
      (.reg [⟨some 21, none, .bin .add 0 (.t 12) (.k (.int .i64 1))⟩, ⟨some 12, none, .mv (.t 21)⟩])))))))
  (.seq (.reg [⟨some 22, none, .ld (some 2) (.t 5)⟩, ⟨none, none, .st 2 (.t 4) (.t 22)⟩])
  .ret))))
set_option maxRecDepth 100000 in
theorem er7 : (Try.f7.body.bind (erC Try.prog cfg 23)) = some c7 := by kernel_rfl
theorem in7 {args : List AV} {σ : St} {Q : AV → St → Prop} (hlen : args.length ≤ 23) (h : σ.Wf → (∀ i, i < args.length → Hab (args.getD i .undef)) → SWP Try.prog σ.next c7 (retQ σ.next [.c (some 2) 4] Q) (fun i => args.getD i .undef) σ) : TQ Try.prog 7 args σ Q := by
  obtain ⟨k, hb, hk⟩ := Option.bind_eq_some_iff.1 er7
  exact TQ_of (fn := Try.f7) Try.func7 (by kernel_rfl) hb (erC_is mixed hk) (by kernel_rfl) hlen h

/-! (*parquetry/parquetrykeep.Tape).Shape -/
def c8 : C :=
  (.seq (.reg [⟨some 2, none, .mv (.k (.nils))⟩])
  (.seq (.reg [⟨some 3, none, .mv (.k (.nils))⟩])
  (.seq (.seq (.reg [⟨some 5, none, .mv (.t 0)⟩, ⟨some 6, none, .call false 18 [(.t 5), (.k (.int .i64 4))]⟩, ⟨some 4, none, .mv (.t 6)⟩])
  (.block 0
    (.loop
      (.seq (.seq (.reg [⟨some 7, none, .mv (.t 4)⟩, ⟨some 8, none, .bin .gtr 0 (.t 7) (.k (.int .i64 0))⟩])
      (.cond (.t 8)
        .skip
        (.exit 0)))
      (.seq (.block 1
        (.reg [⟨some 11, none, .mv (.t 3)⟩, ⟨some 12, none, .bs false 1 [.int .i64 0] 8 [(0, (.k (.int .i64 1))), (1, (.k (.int .i64 2))), (2, (.k (.int .i64 3))), (3, (.k (.int .i64 4))), (4, (.k (.int .i64 5))), (5, (.k (.int .i64 0))), (6, (.k (.int .i64 7))), (7, (.k (.int .i64 2)))]⟩, ⟨some 13, none, .mv (.t 0)⟩, ⟨some 14, none, .call false 18 [(.t 13), (.k (.int .i64 8))]⟩, ⟨some 15, none, .ia 1 (.t 12) (.t 14)⟩, ⟨some 16, none, .ld none (.t 15)⟩, ⟨some 17, none, .bs false 1 [.int .i64 0] 1 [(0, (.t 16))]⟩, ⟨some 18, none, .ap 1 8 (.t 11) (.t 17)⟩, ⟨some 3, none, .mv (.t 18)⟩]))
      (.reg [⟨some 9, none, .mv (.t 4)⟩, ⟨some 10, none, .bin .sub 0 (.t 9) (.k (.int .i64 1))⟩, ⟨some 4, none, .mv (.t 10)⟩]))))))
  (.seq (.reg [⟨some 19, none, .mv (.t 3)⟩, ⟨some 2, none, .mv (.t 19)⟩])
  .ret))))
set_option maxRecDepth 100000 in
theorem er8 : (Try.f8.body.bind (erC Try.prog cfg 20)) = some c8 := by kernel_rfl
theorem in8 {args : List AV} {σ : St} {Q : AV → St → Prop} (hlen : args.length ≤ 20) (h : σ.Wf → (∀ i, i < args.length → Hab (args.getD i .undef)) → SWP Try.prog σ.next c8 (retQ σ.next [.t 2] Q) (fun i => args.getD i .undef) σ) : TQ Try.prog 8 args σ Q := by
  obtain ⟨k, hb, hk⟩ := Option.bind_eq_some_iff.1 er8
  exact TQ_of (fn := Try.f8) Try.func8 (by kernel_rfl) hb (erC_is mixed hk) (by kernel_rfl) hlen h

/-! parquetry/datum.Tensor -/
def c9 : C :=
  (.seq (.reg [⟨some 2, none, .al [.lit 1 [], .lit 1 []]⟩, ⟨some 3, none, .mv (.k (.bool false))⟩])
  (.seq (.seq (.reg [⟨some 8, none, .mv (.t 0)⟩, ⟨some 9, none, .call true 16 [(.t 8)]⟩])
  (.block 0
    (.seq (.reg [⟨some 11, none, .bin .eql 0 (.t 9) (.k (.int .i64 1))⟩, ⟨some 10, none, .mv (.t 11)⟩])
    (.cond (.t 10)
      (.seq (.reg [⟨some 12, none, .mv (.t 0)⟩, ⟨some 13, none, .call true 19 [(.t 12)]⟩, ⟨some 14, none, .bs false 1 [.int .i64 0] 1 [(0, (.t 13))]⟩, ⟨some 15, none, .bd [.lit 1 [], .lit 1 []] [(1, 1, (.t 14))]⟩, ⟨none, none, .st 2 (.t 2) (.t 15)⟩, ⟨some 3, none, .mv (.k (.bool true))⟩])
      .ret)
      (.seq (.reg [⟨some 17, none, .bin .eql 0 (.t 9) (.k (.int .i64 2))⟩, ⟨some 16, none, .mv (.t 17)⟩])
      (.cond (.t 16)
        (.seq (.reg [⟨some 18, none, .mv (.t 0)⟩, ⟨some 19, none, .ta (.t 18) 22 false (.nils)⟩, ⟨some 20, none, .call false 20 [(.t 19)]⟩, ⟨some 21, none, .ex (.t 20) 0⟩, ⟨some 22, none, .ex (.t 20) 1⟩, ⟨none, none, .st 2 (.t 2) (.t 21)⟩, ⟨some 3, none, .mv (.t 22)⟩])
        .ret)
        (.seq (.reg [⟨some 24, none, .bin .eql 0 (.t 9) (.k (.int .i64 3))⟩, ⟨some 23, none, .mv (.t 24)⟩])
        (.cond (.t 23)
          (.seq (.reg [⟨some 25, none, .mv (.t 0)⟩, ⟨some 26, none, .call true 21 [(.t 25)]⟩, ⟨some 4, none, .al [.lit 1 [], .lit 1 []]⟩, ⟨none, none, .st 2 (.t 4) (.t 26)⟩])
          (.seq (.reg [⟨some 27, none, .ld (some 2) (.t 4)⟩, ⟨some 28, none, .call true 22 [(.t 27)]⟩])
          (.cond (.t 28)
            (.seq (.reg [⟨some 29, none, .ld (some 2) (.t 4)⟩, ⟨some 30, none, .call false 23 [(.t 29)]⟩, ⟨none, none, .st 2 (.t 2) (.t 30)⟩, ⟨some 3, none, .mv (.k (.bool true))⟩])
            .ret)
            .skip)))
          (.seq (.reg [⟨some 32, none, .bin .eql 0 (.t 9) (.k (.int .i64 4))⟩, ⟨some 31, none, .mv (.t 32)⟩])
          (.cond (.t 31)
            (.seq (.reg [⟨some 5, none, .mv (.k (.nils))⟩])
            (.seq (.seq (.reg [⟨some 33, none, .mv (.t 0)⟩, ⟨some 34, none, .ta (.t 33) 9 false (.str ⟨#[]⟩)⟩, ⟨some 35, none, .rgs (.t 34)⟩])
            (.block 1
              (.loop
                (.seq (.reg [⟨some 36, none, .nxs (.t 35)⟩, ⟨some 37, none, .ex (.t 36) 0⟩])
                (.seq (.cond (.t 37)
                  .skip
                  (.exit 1))
                (.block 2
                  (.seq (.reg [⟨some 38, none, .ex (.t 36) 2⟩, ⟨some 7, none, .mv (.t 38)⟩])
                  (.reg [⟨some 39, none, .mv (.t 5)⟩, ⟨some 40, none, .mv (.t 7)⟩, ⟨some 41, none, .cv .i64 (.t 40)⟩, ⟨some 42, none, .bs false 1 [.int .i64 0] 1 [(0, (.t 41))]⟩, ⟨some 43, none, .ap 1 8 (.t 39) (.t 42)⟩, ⟨some 5, none, .mv (.t 43)⟩]))))))))
            (.seq (.reg [⟨some 44, none, .mv (.t 5)⟩, ⟨some 45, none, .call false 20 [(.t 44)]⟩, ⟨some 46, none, .ex (.t 45) 0⟩, ⟨some 47, none, .ex (.t 45) 1⟩, ⟨none, none, .st 2 (.t 2) (.t 46)⟩, ⟨some 3, none, .mv (.t 47)⟩])
            .ret)))
            .skip))))))))))
  (.seq (.reg [⟨some 48, none, .bd [.lit 1 [], .lit 1 []] []⟩, ⟨none, none, .st 2 (.t 2) (.t 48)⟩, ⟨some 3, none, .mv (.k (.bool false))⟩])
  .ret)))
set_option maxRecDepth 100000 in
theorem er9 : (Try.f9.body.bind (erC Try.prog cfg 49)) = some c9 := by kernel_rfl
theorem in9 {args : List AV} {σ : St} {Q : AV → St → Prop} (hlen : args.length ≤ 49) (h : σ.Wf → (∀ i, i < args.length → Hab (args.getD i .undef)) → SWP Try.prog σ.next c9 (retQ σ.next [.c (some 2) 2, .t 3] Q) (fun i => args.getD i .undef) σ) : TQ Try.prog 9 args σ Q := by
  obtain ⟨k, hb, hk⟩ := Option.bind_eq_some_iff.1 er9
  exact TQ_of (fn := Try.f9) Try.func9 (by kernel_rfl) hb (erC_is mixed hk) (by kernel_rfl) hlen h

/-! parquetry/parquetrybook.Same[int64] -/
def c10 : C :=
  (.seq (.reg [⟨some 4, none, .mv (.k (.bool false))⟩])
  (.seq (.seq (.reg [⟨some 6, none, .mv (.t 0)⟩, ⟨some 7, none, .ln false (.t 6)⟩, ⟨some 8, none, .mv (.t 1)⟩, ⟨some 9, none, .ln false (.t 8)⟩, ⟨some 10, none, .bin .neq 0 (.t 7) (.t 9)⟩])
  (.cond (.t 10)
    (.seq (.reg [⟨some 4, none, .mv (.k (.bool false))⟩])
    .ret)
    .skip))
  (.seq (.seq (.reg [⟨some 5, none, .mv (.k (.int .i64 0))⟩])
  (.block 0
    (.loop
      (.seq (.seq (.reg [⟨some 11, none, .mv (.t 5)⟩, ⟨some 12, none, .mv (.t 0)⟩, ⟨some 13, none, .ln false (.t 12)⟩, ⟨some 14, none, .bin .lss 0 (.t 11) (.t 13)⟩])
      (.cond (.t 14)
        .skip
        (.exit 0)))
      (.seq (.block 1
        (.seq (.drs [⟨some 17, none, .mv (.t 0)⟩, ⟨some 18, none, .mv (.t 5)⟩, ⟨some 19, none, .ia 1 (.t 17) (.t 18)⟩, ⟨some 20, none, .ld none (.t 19)⟩, ⟨some 21, none, .mv (.t 1)⟩, ⟨some 22, none, .mv (.t 5)⟩, ⟨some 23, none, .ia 1 (.t 21) (.t 22)⟩, ⟨some 24, none, .ld none (.t 23)⟩, ⟨some 25, none, .bin .neq 0 (.t 20) (.t 24)⟩])
        (.cond (.t 25)
          (.seq (.reg [⟨some 4, none, .mv (.k (.bool false))⟩])
          .ret)
          .skip)))
      (.reg [⟨some 15, none, .mv (.t 5)⟩, ⟨some 16, none, .bin .add 0 (.t 15) (.k (.int .i64 1))⟩, ⟨some 5, none, .mv (.t 16)⟩]))))))
  (.seq (.reg [⟨some 4, none, .mv (.k (.bool true))⟩])
  .ret))))
set_option maxRecDepth 100000 in
theorem er10 : (Try.f10.body.bind (erC Try.prog cfg 26)) = some c10 := by kernel_rfl
theorem in10 {args : List AV} {σ : St} {Q : AV → St → Prop} (hlen : args.length ≤ 26) (h : σ.Wf → (∀ i, i < args.length → Hab (args.getD i .undef)) → SWP Try.prog σ.next c10 (retQ σ.next [.t 4] Q) (fun i => args.getD i .undef) σ) : TQ Try.prog 10 args σ Q := by
  obtain ⟨k, hb, hk⟩ := Option.bind_eq_some_iff.1 er10
  exact TQ_of (fn := Try.f10) Try.func10 (by kernel_rfl) hb (erC_is mixed hk) (by kernel_rfl) hlen h

/-! parquetry/parquetrylaw3.known -/
def c11 : C :=
  (.seq (.reg [⟨some 0, none, .mv (.k (.bool false))⟩])
  (.seq (.reg [⟨some 6, none, .mi 9 (.k (.str ⟨#[97, 98]⟩))⟩, ⟨some 7, none, .call false 9 [(.t 6)]⟩, ⟨some 5, none, .mv (.t 7)⟩, ⟨some 8, none, .ex (.t 5) 0⟩, ⟨some 9, none, .ex (.t 5) 1⟩, ⟨some 1, none, .al [.lit 1 [], .lit 1 []]⟩, ⟨none, none, .st 2 (.t 1) (.t 8)⟩, ⟨some 2, none, .mv (.t 9)⟩])
  (.seq (.reg [⟨some 11, none, .mi 4 (.k (.bool true))⟩, ⟨some 12, none, .call false 9 [(.t 11)]⟩, ⟨some 10, none, .mv (.t 12)⟩, ⟨some 13, none, .ex (.t 10) 0⟩, ⟨some 14, none, .ex (.t 10) 1⟩, ⟨some 3, none, .al [.lit 1 [], .lit 1 []]⟩, ⟨none, none, .st 2 (.t 3) (.t 13)⟩, ⟨some 4, none, .mv (.t 14)⟩])
  (.seq (.reg [⟨some 15, none, .mv (.t 2)⟩, ⟨some 16, none, .mv (.t 15)⟩, ⟨some 17, (some (16, true)), .fa 1 (.t 1)⟩, ⟨some 18, (some (16, true)), .ld none (.t 17)⟩, ⟨some 19, (some (16, true)), .ln false (.t 18)⟩, ⟨some 20, (some (16, true)), .bin .eql 0 (.t 19) (.k (.int .i64 2))⟩, ⟨some 21, none, .pk (.t 16) (.t 20) (.k (.bool false))⟩, ⟨some 22, none, .mv (.t 21)⟩, ⟨some 23, (some (22, true)), .fa 1 (.t 1)⟩, ⟨some 24, (some (22, true)), .ld none (.t 23)⟩, ⟨some 25, (some (22, true)), .ia 1 (.t 24) (.k (.int .i64 0))⟩, ⟨some 26, (some (22, true)), .ld none (.t 25)⟩, ⟨some 27, (some (22, true)), .bin .eql 0 (.t 26) (.k (.int .i64 97))⟩, ⟨some 28, none, .pk (.t 22) (.t 27) (.k (.bool false))⟩, ⟨some 29, none, .mv (.t 28)⟩, ⟨some 30, (some (29, true)), .fa 1 (.t 1)⟩, ⟨some 31, (some (29, true)), .ld none (.t 30)⟩, ⟨some 32, (some (29, true)), .ia 1 (.t 31) (.k (.int .i64 1))⟩, ⟨some 33, (some (29, true)), .ld none (.t 32)⟩, ⟨some 34, (some (29, true)), .bin .eql 0 (.t 33) (.k (.int .i64 98))⟩, ⟨some 35, none, .pk (.t 29) (.t 34) (.k (.bool false))⟩, ⟨some 36, none, .mv (.t 35)⟩, ⟨some 37, (some (36, true)), .mv (.t 4)⟩, ⟨some 38, (some (36, true)), .un .not (.t 37)⟩, ⟨some 39, none, .pk (.t 36) (.t 38) (.k (.bool false))⟩, ⟨some 40, none, .mv (.t 39)⟩, ⟨some 41, (some (40, true)), .call true 16 [(.k (.niliface))]⟩, ⟨some 42, (some (40, true)), .bin .eql 0 (.t 41) (.k (.int .i64 0))⟩, ⟨some 43, none, .pk (.t 40) (.t 42) (.k (.bool false))⟩, ⟨some 44, none, .mv (.t 43)⟩, ⟨some 45, (some (44, true)), .mi 4 (.k (.bool true))⟩, ⟨some 46, (some (44, true)), .call false 25 [(.t 45)]⟩, ⟨some 47, (some (44, true)), .call true 24 [(.t 46), (.k (.int .i64 (-1)))]⟩, ⟨some 48, none, .pk (.t 44) (.t 47) (.k (.bool false))⟩, ⟨some 49, none, .mv (.t 48)⟩, ⟨some 50, (some (49, true)), .bs false 1 [.niliface] 0 []⟩, ⟨some 51, (some (49, true)), .mi 42 (.t 50)⟩, ⟨some 52, (some (49, true)), .call true 16 [(.t 51)]⟩, ⟨some 53, (some (49, true)), .bin .eql 0 (.t 52) (.k (.int .i64 5))⟩, ⟨some 54, none, .pk (.t 49) (.t 53) (.k (.bool false))⟩, ⟨some 0, none, .mv (.t 54)⟩])
  .ret))))
set_option maxRecDepth 100000 in
theorem er11 : (Try.f11.body.bind (erC Try.prog cfg 55)) = some c11 := by kernel_rfl
theorem in11 {args : List AV} {σ : St} {Q : AV → St → Prop} (hlen : args.length ≤ 55) (h : σ.Wf → (∀ i, i < args.length → Hab (args.getD i .undef)) → SWP Try.prog σ.next c11 (retQ σ.next [.t 0] Q) (fun i => args.getD i .undef) σ) : TQ Try.prog 11 args σ Q := by
  obtain ⟨k, hb, hk⟩ := Option.bind_eq_some_iff.1 er11
  exact TQ_of (fn := Try.f11) Try.func11 (by kernel_rfl) hb (erC_is mixed hk) (by kernel_rfl) hlen h

/-! parquetry/parquetrylaw3.all -/
def c12 : C :=
  (.seq (.reg [⟨some 7, none, .bx (.t 3)⟩, ⟨some 8, none, .mv (.k (.bool false))⟩])
  (.seq (.reg [⟨some 17, none, .mv (.t 0)⟩, ⟨some 18, none, .bs false 1 [.int .i64 0] 1 [(0, (.t 17))]⟩, ⟨some 19, none, .bd [.lit 1 [], .lit 1 []] [(1, 1, (.t 18))]⟩, ⟨some 9, none, .al [.lit 1 [], .lit 1 []]⟩, ⟨none, none, .st 2 (.t 9) (.t 19)⟩])
  (.seq (.reg [⟨some 20, none, .ld (some 2) (.t 7)⟩, ⟨some 21, none, .call true 26 [(.t 20)]⟩, ⟨some 10, none, .mv (.t 21)⟩])
  (.seq (.reg [⟨some 22, none, .mv (.t 1)⟩, ⟨some 23, none, .ln false (.t 22)⟩, ⟨some 24, none, .bin .leq 0 (.t 23) (.k (.int .i64 32))⟩, ⟨some 11, none, .mv (.t 24)⟩])
  (.seq (.reg [⟨some 25, none, .mv (.t 2)⟩, ⟨some 26, none, .call true 27 [(.t 25)]⟩, ⟨some 27, none, .ln false (.t 26)⟩, ⟨some 28, none, .bin .leq 0 (.t 27) (.k (.int .i64 32))⟩, ⟨some 12, none, .mv (.t 28)⟩])
  (.seq (.reg [⟨some 13, none, .mv (.k (.nilp))⟩])
  (.seq (.seq (.reg [⟨some 29, none, .mv (.t 0)⟩, ⟨some 30, none, .mi 2 (.t 29)⟩, ⟨some 31, none, .ld (some 2) (.t 9)⟩, ⟨some 32, none, .call true 28 [(.t 30), (.k (.int .i64 1)), (.t 31), (.k (.bool true))]⟩, ⟨some 33, none, .un .not (.t 32)⟩, ⟨some 34, none, .mv (.t 33)⟩, ⟨some 35, (some (34, false)), .mv (.t 0)⟩, ⟨some 36, (some (34, false)), .mi 3 (.t 35)⟩, ⟨some 37, (some (34, false)), .ld (some 2) (.t 9)⟩, ⟨some 38, (some (34, false)), .call true 28 [(.t 36), (.k (.int .i64 1)), (.t 37), (.k (.bool true))]⟩, ⟨some 39, (some (34, false)), .un .not (.t 38)⟩, ⟨some 40, none, .pk (.t 34) (.k (.bool true)) (.t 39)⟩, ⟨some 41, none, .mv (.t 40)⟩, ⟨some 42, (some (41, false)), .mv (.t 1)⟩, ⟨some 43, (some (41, false)), .mi 22 (.t 42)⟩, ⟨some 44, (some (41, false)), .mv (.t 1)⟩, ⟨some 45, (some (41, false)), .call true 29 [(.t 44)]⟩, ⟨some 46, (some (41, false)), .mv (.t 11)⟩, ⟨some 47, (some (41, false)), .call true 28 [(.t 43), (.k (.int .i64 2)), (.t 45), (.t 46)]⟩, ⟨some 48, (some (41, false)), .un .not (.t 47)⟩, ⟨some 49, none, .pk (.t 41) (.k (.bool true)) (.t 48)⟩, ⟨some 50, none, .mv (.t 49)⟩, ⟨some 51, (some (50, false)), .mv (.t 2)⟩, ⟨some 52, (some (50, false)), .mi 9 (.t 51)⟩, ⟨some 53, (some (50, false)), .mv (.t 2)⟩, ⟨some 54, (some (50, false)), .call true 30 [(.t 53)]⟩, ⟨some 55, (some (50, false)), .mv (.t 12)⟩, ⟨some 56, (some (50, false)), .call true 28 [(.t 52), (.k (.int .i64 4)), (.t 54), (.t 55)]⟩, ⟨some 57, (some (50, false)), .un .not (.t 56)⟩, ⟨some 58, none, .pk (.t 50) (.k (.bool true)) (.t 57)⟩, ⟨some 59, none, .mv (.t 58)⟩, ⟨some 60, (some (59, false)), .ld (some 2) (.t 7)⟩, ⟨some 61, (some (59, false)), .mi 28 (.t 60)⟩, ⟨some 62, (some (59, false)), .ld (some 2) (.t 7)⟩, ⟨some 63, (some (59, false)), .mv (.t 10)⟩, ⟨some 64, (some (59, false)), .call true 28 [(.t 61), (.k (.int .i64 3)), (.t 62), (.t 63)]⟩, ⟨some 65, (some (59, false)), .un .not (.t 64)⟩, ⟨some 66, none, .pk (.t 59) (.k (.bool true)) (.t 65)⟩, ⟨some 67, none, .mv (.t 66)⟩, ⟨some 68, (some (67, false)), .mi 33 (.t 7)⟩, ⟨some 69, (some (67, false)), .ld (some 2) (.t 7)⟩, ⟨some 70, (some (67, false)), .mv (.t 10)⟩, ⟨some 71, (some (67, false)), .call true 28 [(.t 68), (.k (.int .i64 3)), (.t 69), (.t 70)]⟩, ⟨some 72, (some (67, false)), .un .not (.t 71)⟩, ⟨some 73, none, .pk (.t 67) (.k (.bool true)) (.t 72)⟩])
  (.cond (.t 73)
    (.seq (.reg [⟨some 8, none, .mv (.k (.bool false))⟩])
    .ret)
    .skip))
  (.seq (.seq (.reg [⟨some 74, none, .mv (.t 13)⟩, ⟨some 75, none, .mi 33 (.t 74)⟩, ⟨some 76, none, .mi 4 (.k (.bool true))⟩, ⟨some 77, none, .mi 58 (.k (.raw (.float .f64 4609434218613702656)))⟩, ⟨some 78, none, .bd [.int .i64 0] [(0, 1, (.k (.int .i64 5)))]⟩, ⟨some 79, none, .mi 60 (.t 78)⟩, ⟨some 80, none, .bd [.int .i64 0] []⟩, ⟨some 81, none, .bx (.t 80)⟩, ⟨some 82, none, .mi 61 (.t 81)⟩, ⟨some 83, none, .bs false 1 [.int .i64 0] 1 [(0, (.k (.int .i64 1)))]⟩, ⟨some 84, none, .mi 23 (.t 83)⟩, ⟨some 85, none, .mi 21 (.k (.int .i32 3))⟩, ⟨some 86, none, .mi 5 (.k (.int .u8 4))⟩, ⟨some 87, none, .mi 64 (.k (.int .i64 0))⟩, ⟨some 88, none, .mi 21 (.k (.int .i32 120))⟩, ⟨some 89, none, .bs false 1 [.niliface] 11 [(0, (.t 75)), (1, (.k (.niliface))), (2, (.t 76)), (3, (.t 77)), (4, (.t 79)), (5, (.t 82)), (6, (.t 84)), (7, (.t 85)), (8, (.t 86)), (9, (.t 87)), (10, (.t 88))]⟩, ⟨some 90, none, .ln false (.t 89)⟩, ⟨some 91, none, .mv (.k (.int .i64 0))⟩])
  (.block 0
    (.loop
      (.seq (.reg [⟨some 92, none, .bin .lss 0 (.t 91) (.t 90)⟩])
      (.seq (.cond (.t 92)
        .skip
        (.exit 0))
      (.seq (.block 1
        (.seq (.reg [⟨some 93, none, .ia 1 (.t 89) (.t 91)⟩, ⟨some 94, none, .ld none (.t 93)⟩, ⟨some 15, none, .mv (.t 94)⟩])
        (.seq (.reg [⟨some 95, none, .mv (.t 15)⟩, ⟨some 96, none, .bd [.lit 1 [], .lit 1 []] []⟩, ⟨some 97, none, .call true 28 [(.t 95), (.k (.int .i64 0)), (.t 96), (.k (.bool false))]⟩, ⟨some 98, none, .un .not (.t 97)⟩])
        (.cond (.t 98)
          (.seq (.reg [⟨some 8, none, .mv (.k (.bool false))⟩])
          .ret)
          .skip))))
      (.reg [⟨some 99, none, .bin .add 0 (.t 91) (.k (.int .i64 1))⟩, ⟨some 91, none, .mv (.t 99)⟩])))))))
  (.seq (.reg [⟨some 100, none, .mv (.t 0)⟩, ⟨some 101, none, .mi 2 (.t 100)⟩, ⟨some 102, none, .mv (.t 0)⟩, ⟨some 103, none, .mi 3 (.t 102)⟩, ⟨some 104, none, .mv (.t 1)⟩, ⟨some 105, none, .mi 22 (.t 104)⟩, ⟨some 106, none, .ld (some 2) (.t 7)⟩, ⟨some 107, none, .mi 28 (.t 106)⟩, ⟨some 108, none, .mi 33 (.t 7)⟩, ⟨some 109, none, .mv (.t 2)⟩, ⟨some 110, none, .mi 9 (.t 109)⟩, ⟨some 111, none, .mv (.t 2)⟩, ⟨some 112, none, .mi 9 (.t 111)⟩, ⟨some 113, none, .mv (.t 0)⟩, ⟨some 114, none, .mi 2 (.t 113)⟩, ⟨some 115, none, .bs false 1 [.niliface] 1 [(0, (.t 114))]⟩, ⟨some 116, none, .mi 42 (.t 115)⟩, ⟨some 117, none, .bd [.int .i64 0] [(0, 1, (.k (.int .i64 1)))]⟩, ⟨some 118, none, .mi 60 (.t 117)⟩, ⟨some 119, none, .mv (.t 13)⟩, ⟨some 120, none, .mi 33 (.t 119)⟩, ⟨some 121, none, .bs false 1 [.niliface] 11 [(0, (.t 101)), (1, (.t 103)), (2, (.t 105)), (3, (.t 107)), (4, (.t 108)), (5, (.t 110)), (6, (.t 112)), (7, (.t 116)), (8, (.k (.niliface))), (9, (.t 118)), (10, (.t 120))]⟩, ⟨some 122, none, .call true 15 [(.t 121)]⟩, ⟨some 16, none, .mv (.t 122)⟩])
  (.seq (.reg [⟨some 123, none, .mv (.t 0)⟩, ⟨some 124, none, .mi 2 (.t 123)⟩, ⟨some 125, none, .mv (.t 1)⟩, ⟨some 126, none, .mi 22 (.t 125)⟩, ⟨some 127, none, .bs false 1 [.niliface] 2 [(0, (.t 124)), (1, (.t 126))]⟩, ⟨some 128, none, .mi 42 (.t 127)⟩, ⟨some 129, none, .bd [.lit 1 [], .lit 1 []] []⟩, ⟨some 130, none, .call true 28 [(.t 128), (.k (.int .i64 5)), (.t 129), (.k (.bool false))]⟩, ⟨some 131, none, .mv (.t 130)⟩, ⟨some 132, (some (131, true)), .mv (.t 16)⟩, ⟨some 133, (some (131, true)), .bs false 1 [.int .i64 0] 6 [(0, (.k (.int .i64 3))), (1, (.k (.int .i64 2))), (2, (.k (.int .i64 1))), (3, (.k (.int .i64 2))), (4, (.k (.int .i64 2))), (5, (.k (.int .i64 1)))]⟩, ⟨some 134, (some (131, true)), .call false 14 [(.t 132), (.t 133)]⟩, ⟨some 135, none, .pk (.t 131) (.t 134) (.k (.bool false))⟩, ⟨some 8, none, .mv (.t 135)⟩])
  .ret))))))))))
set_option maxRecDepth 100000 in
theorem er12 : (Try.f12.body.bind (erC Try.prog cfg 136)) = some c12 := by kernel_rfl
theorem in12 {args : List AV} {σ : St} {Q : AV → St → Prop} (hlen : args.length ≤ 136) (h : σ.Wf → (∀ i, i < args.length → Hab (args.getD i .undef)) → SWP Try.prog σ.next c12 (retQ σ.next [.t 8] Q) (fun i => args.getD i .undef) σ) : TQ Try.prog 12 args σ Q := by
  obtain ⟨k, hb, hk⟩ := Option.bind_eq_some_iff.1 er12
  exact TQ_of (fn := Try.f12) Try.func12 (by kernel_rfl) hb (erC_is mixed hk) (by kernel_rfl) hlen h

/-! parquetry/parquetryref1.Fill -/
def c13 : C :=
  (.seq (.reg [⟨some 4, none, .al [.nils, .nils]⟩])
  (.seq (.reg [⟨some 7, none, .bs false 1 [.int .i64 0] 0 []⟩, ⟨some 8, none, .mv (.t 0)⟩, ⟨some 9, none, .ap 1 8 (.t 7) (.t 8)⟩, ⟨some 10, none, .bd [.nils, .nils] [(0, 1, (.t 9))]⟩, ⟨some 5, none, .al [.nils, .nils]⟩, ⟨none, none, .st 2 (.t 5) (.t 10)⟩])
  (.seq (.seq (.reg [⟨some 6, none, .mv (.k (.int .i64 0))⟩])
  (.block 0
    (.loop
      (.seq (.seq (.reg [⟨some 11, none, .mv (.t 6)⟩, ⟨some 12, none, .mv (.t 0)⟩, ⟨some 13, none, .call true 31 [(.t 12)]⟩, ⟨some 14, none, .bin .lss 0 (.t 11) (.t 13)⟩])
      (.cond (.t 14)
        .skip
        (.exit 0)))
      (.seq (.block 1
        (.reg [⟨some 17, none, .fa 1 (.t 5)⟩, ⟨some 18, none, .ld none (.t 17)⟩, ⟨some 19, none, .mv (.t 1)⟩, ⟨some 20, none, .bs false 1 [.int .i64 0] 1 [(0, (.t 19))]⟩, ⟨some 21, none, .ap 1 8 (.t 18) (.t 20)⟩, ⟨some 22, none, .fa 1 (.t 5)⟩, ⟨none, none, .st 1 (.t 22) (.t 21)⟩]))
      (.reg [⟨some 15, none, .mv (.t 6)⟩, ⟨some 16, none, .bin .add 0 (.t 15) (.k (.int .i64 1))⟩, ⟨some 6, none, .mv (.t 16)⟩]))))))
  (.seq (.reg [⟨some 23, none, .ld (some 2) (.t 5)⟩, ⟨none, none, .st 2 (.t 4) (.t 23)⟩])
  .ret))))
set_option maxRecDepth 100000 in
theorem er13 : (Try.f13.body.bind (erC Try.prog ({ cfg with data := fun _ => false }) 24)) = some c13 := by kernel_rfl
theorem in13 {args : List AV} {σ : St} {Q : AV → St → Prop} (hlen : args.length ≤ 24) (h : σ.Wf → (∀ i, i < args.length → Hab (args.getD i .undef)) → SWP Try.prog σ.next c13 (retQ σ.next [.c (some 2) 4] Q) (fun i => args.getD i .undef) σ) : TQ Try.prog 13 args σ Q := by
  obtain ⟨k, hb, hk⟩ := Option.bind_eq_some_iff.1 er13
  exact TQ_of (fn := Try.f13) Try.func13 (by kernel_rfl) hb (erC_is mixed hk) (by kernel_rfl) hlen h

/-! parquetry/parquetrybook.Same[int] -/
def c14 : C :=
  (.seq (.reg [⟨some 4, none, .mv (.k (.bool false))⟩])
  (.seq (.seq (.reg [⟨some 6, none, .mv (.t 0)⟩, ⟨some 7, none, .ln false (.t 6)⟩, ⟨some 8, none, .mv (.t 1)⟩, ⟨some 9, none, .ln false (.t 8)⟩, ⟨some 10, none, .bin .neq 0 (.t 7) (.t 9)⟩])
  (.cond (.t 10)
    (.seq (.reg [⟨some 4, none, .mv (.k (.bool false))⟩])
    .ret)
    .skip))
  (.seq (.seq (.reg [⟨some 5, none, .mv (.k (.int .i64 0))⟩])
  (.block 0
    (.loop
      (.seq (.seq (.reg [⟨some 11, none, .mv (.t 5)⟩, ⟨some 12, none, .mv (.t 0)⟩, ⟨some 13, none, .ln false (.t 12)⟩, ⟨some 14, none, .bin .lss 0 (.t 11) (.t 13)⟩])
      (.cond (.t 14)
        .skip
        (.exit 0)))
      (.seq (.block 1
        (.seq (.drs [⟨some 17, none, .mv (.t 0)⟩, ⟨some 18, none, .mv (.t 5)⟩, ⟨some 19, none, .ia 1 (.t 17) (.t 18)⟩, ⟨some 20, none, .ld none (.t 19)⟩, ⟨some 21, none, .mv (.t 1)⟩, ⟨some 22, none, .mv (.t 5)⟩, ⟨some 23, none, .ia 1 (.t 21) (.t 22)⟩, ⟨some 24, none, .ld none (.t 23)⟩, ⟨some 25, none, .bin .neq 0 (.t 20) (.t 24)⟩])
        (.cond (.t 25)
          (.seq (.reg [⟨some 4, none, .mv (.k (.bool false))⟩])
          .ret)
          .skip)))
      (.reg [⟨some 15, none, .mv (.t 5)⟩, ⟨some 16, none, .bin .add 0 (.t 15) (.k (.int .i64 1))⟩, ⟨some 5, none, .mv (.t 16)⟩]))))))
  (.seq (.reg [⟨some 4, none, .mv (.k (.bool true))⟩])
  .ret))))
set_option maxRecDepth 100000 in
theorem er14 : (Try.f14.body.bind (erC Try.prog cfg 26)) = some c14 := by kernel_rfl
theorem in14 {args : List AV} {σ : St} {Q : AV → St → Prop} (hlen : args.length ≤ 26) (h : σ.Wf → (∀ i, i < args.length → Hab (args.getD i .undef)) → SWP Try.prog σ.next c14 (retQ σ.next [.t 4] Q) (fun i => args.getD i .undef) σ) : TQ Try.prog 14 args σ Q := by
  obtain ⟨k, hb, hk⟩ := Option.bind_eq_some_iff.1 er14
  exact TQ_of (fn := Try.f14) Try.func14 (by kernel_rfl) hb (erC_is mixed hk) (by kernel_rfl) hlen h

/-! parquetry/datum.Count -/
def c15 : C :=
  (.seq (.reg [⟨some 2, none, .mv (.k (.nils))⟩])
  (.seq (.reg [⟨some 6, none, .ms 1 8 [.int .i64 0] (.k (.int .i64 6)) (.k (.int .i64 6))⟩, ⟨some 3, none, .mv (.t 6)⟩])
  (.seq (.seq (.reg [⟨some 7, none, .mv (.t 0)⟩, ⟨some 8, none, .ln false (.t 7)⟩, ⟨some 9, none, .mv (.k (.int .i64 0))⟩])
  (.block 0
    (.loop
      (.seq (.reg [⟨some 10, none, .bin .lss 0 (.t 9) (.t 8)⟩])
      (.seq (.cond (.t 10)
        .skip
        (.exit 0))
      (.seq (.block 1
        (.seq (.reg [⟨some 11, none, .ia 1 (.t 7) (.t 9)⟩, ⟨some 12, none, .ld none (.t 11)⟩, ⟨some 5, none, .mv (.t 12)⟩])
        (.reg [⟨some 13, none, .mv (.t 3)⟩, ⟨some 14, none, .mv (.t 5)⟩, ⟨some 15, none, .call true 16 [(.t 14)]⟩, ⟨some 16, none, .ia 1 (.t 13) (.t 15)⟩, ⟨some 17, none, .ld none (.t 16)⟩, ⟨some 18, none, .bin .add 0 (.t 17) (.k (.int .i64 1))⟩, ⟨some 19, none, .ia 1 (.t 13) (.t 15)⟩, ⟨none, none, .st 1 (.t 19) (.t 18)⟩])))
      (.reg [⟨some 20, none, .bin .add 0 (.t 9) (.k (.int .i64 1))⟩, ⟨some 9, none, .mv (.t 20)⟩])))))))
  (.seq (.reg [⟨some 21, none, .mv (.t 3)⟩, ⟨some 2, none, .mv (.t 21)⟩])
  .ret))))
set_option maxRecDepth 100000 in
theorem er15 : (Try.f15.body.bind (erC Try.prog cfg 22)) = some c15 := by kernel_rfl
theorem in15 {args : List AV} {σ : St} {Q : AV → St → Prop} (hlen : args.length ≤ 22) (h : σ.Wf → (∀ i, i < args.length → Hab (args.getD i .undef)) → SWP Try.prog σ.next c15 (retQ σ.next [.t 2] Q) (fun i => args.getD i .undef) σ) : TQ Try.prog 15 args σ Q := by
  obtain ⟨k, hb, hk⟩ := Option.bind_eq_some_iff.1 er15
  exact TQ_of (fn := Try.f15) Try.func15 (by kernel_rfl) hb (erC_is mixed hk) (by kernel_rfl) hlen h

/-! parquetry/datum.Kind -/
def c16 : C :=
  (.seq (.reg [⟨some 2, none, .mv (.k (.int .i64 0))⟩])
  (.seq (.seq (.reg [⟨some 18, none, .mv (.t 0)⟩, ⟨some 19, none, .ta (.t 18) 3 true (.int .i64 0)⟩, ⟨some 17, none, .mv (.t 19)⟩, ⟨some 20, none, .ex (.t 17) 0⟩, ⟨some 21, none, .ex (.t 17) 1⟩, ⟨some 3, none, .mv (.t 20)⟩, ⟨some 4, none, .mv (.t 21)⟩])
  (.seq (.reg [⟨some 22, none, .mv (.t 4)⟩])
  (.cond (.t 22)
    (.seq (.reg [⟨some 2, none, .mv (.k (.int .i64 1))⟩])
    .ret)
    .skip)))
  (.seq (.seq (.reg [⟨some 24, none, .mv (.t 0)⟩, ⟨some 25, none, .ta (.t 24) 2 true (.int .i64 0)⟩, ⟨some 23, none, .mv (.t 25)⟩, ⟨some 26, none, .ex (.t 23) 0⟩, ⟨some 27, none, .ex (.t 23) 1⟩, ⟨some 5, none, .mv (.t 26)⟩, ⟨some 6, none, .mv (.t 27)⟩])
  (.seq (.reg [⟨some 28, none, .mv (.t 6)⟩])
  (.cond (.t 28)
    (.seq (.reg [⟨some 2, none, .mv (.k (.int .i64 1))⟩])
    .ret)
    .skip)))
  (.seq (.seq (.reg [⟨some 30, none, .mv (.t 0)⟩, ⟨some 31, none, .ta (.t 30) 22 true (.nils)⟩, ⟨some 29, none, .mv (.t 31)⟩, ⟨some 32, none, .ex (.t 29) 0⟩, ⟨some 33, none, .ex (.t 29) 1⟩, ⟨some 7, none, .mv (.t 32)⟩, ⟨some 8, none, .mv (.t 33)⟩])
  (.seq (.reg [⟨some 34, none, .mv (.t 8)⟩])
  (.cond (.t 34)
    (.seq (.reg [⟨some 2, none, .mv (.k (.int .i64 2))⟩])
    .ret)
    .skip)))
  (.seq (.seq (.reg [⟨some 36, none, .mv (.t 0)⟩, ⟨some 37, none, .ta (.t 36) 28 true (.agg [.lit 1 [], .lit 1 []])⟩, ⟨some 35, none, .mv (.t 37)⟩, ⟨some 38, none, .ex (.t 35) 0⟩, ⟨some 39, none, .ex (.t 35) 1⟩, ⟨some 9, none, .al [.lit 1 [], .lit 1 []]⟩, ⟨none, none, .st 2 (.t 9) (.t 38)⟩, ⟨some 10, none, .mv (.t 39)⟩])
  (.seq (.reg [⟨some 40, none, .mv (.t 10)⟩])
  (.cond (.t 40)
    (.seq (.reg [⟨some 2, none, .mv (.k (.int .i64 3))⟩])
    .ret)
    .skip)))
  (.seq (.seq (.reg [⟨some 42, none, .mv (.t 0)⟩, ⟨some 43, none, .ta (.t 42) 33 true (.nilp)⟩, ⟨some 41, none, .mv (.t 43)⟩, ⟨some 44, none, .ex (.t 41) 0⟩, ⟨some 45, none, .ex (.t 41) 1⟩, ⟨some 11, none, .mv (.t 44)⟩, ⟨some 12, none, .mv (.t 45)⟩])
  (.seq (.reg [⟨some 46, none, .mv (.t 12)⟩, ⟨some 47, none, .mv (.t 46)⟩, ⟨some 48, (some (47, true)), .mv (.t 11)⟩, ⟨some 49, (some (47, true)), .bin .neq 2 (.t 48) (.k (.nilp))⟩, ⟨some 50, none, .pk (.t 47) (.t 49) (.k (.bool false))⟩])
  (.cond (.t 50)
    (.seq (.reg [⟨some 2, none, .mv (.k (.int .i64 3))⟩])
    .ret)
    .skip)))
  (.seq (.seq (.reg [⟨some 52, none, .mv (.t 0)⟩, ⟨some 53, none, .ta (.t 52) 9 true (.str ⟨#[]⟩)⟩, ⟨some 51, none, .mv (.t 53)⟩, ⟨some 54, none, .ex (.t 51) 0⟩, ⟨some 55, none, .ex (.t 51) 1⟩, ⟨some 13, none, .mv (.t 54)⟩, ⟨some 14, none, .mv (.t 55)⟩])
  (.seq (.reg [⟨some 56, none, .mv (.t 14)⟩])
  (.cond (.t 56)
    (.seq (.reg [⟨some 2, none, .mv (.k (.int .i64 4))⟩])
    .ret)
    .skip)))
  (.seq (.seq (.reg [⟨some 58, none, .mv (.t 0)⟩, ⟨some 59, none, .ta (.t 58) 42 true (.nils)⟩, ⟨some 57, none, .mv (.t 59)⟩, ⟨some 60, none, .ex (.t 57) 0⟩, ⟨some 61, none, .ex (.t 57) 1⟩, ⟨some 15, none, .mv (.t 60)⟩, ⟨some 16, none, .mv (.t 61)⟩])
  (.seq (.reg [⟨some 62, none, .mv (.t 16)⟩])
  (.cond (.t 62)
    (.seq (.reg [⟨some 2, none, .mv (.k (.int .i64 5))⟩])
    .ret)
    .skip)))
  (.seq (.reg [⟨some 2, none, .mv (.k (.int .i64 0))⟩])
  .ret)))))))))
set_option maxRecDepth 100000 in
theorem er16 : (Try.f16.body.bind (erC Try.prog cfg 63)) = some c16 := by kernel_rfl
theorem in16 {args : List AV} {σ : St} {Q : AV → St → Prop} (hlen : args.length ≤ 63) (h : σ.Wf → (∀ i, i < args.length → Hab (args.getD i .undef)) → SWP Try.prog σ.next c16 (retQ σ.next [.t 2] Q) (fun i => args.getD i .undef) σ) : TQ Try.prog 16 args σ Q := by
  obtain ⟨k, hb, hk⟩ := Option.bind_eq_some_iff.1 er16
  exact TQ_of (fn := Try.f16) Try.func16 (by kernel_rfl) hb (erC_is mixed hk) (by kernel_rfl) hlen h

/-! (*parquetry/parquetrykeep.Tape).Number -/
def c17 : C :=
  (.seq (.reg [⟨some 2, none, .mv (.k (.int .i64 0))⟩])
  (.seq (.seq (.reg [⟨some 3, none, .mv (.t 0)⟩, ⟨some 4, none, .call false 18 [(.t 3), (.k (.int .i64 9))]⟩])
  (.block 0
    (.seq (.reg [⟨some 6, none, .bin .eql 0 (.t 4) (.k (.int .i64 0))⟩, ⟨some 5, none, .mv (.t 6)⟩])
    (.cond (.t 5)
      (.seq (.reg [⟨some 7, none, .bs false 1 [.int .i64 0] 6 [(0, (.k (.int .i64 9223372036854775807))), (1, (.k (.int .i64 (-9223372036854775808)))), (2, (.k (.int .i64 4611686018427387904))), (3, (.k (.int .i64 (-1099511627776)))), (4, (.k (.int .i64 8589934592))), (5, (.k (.int .i64 3037000500)))]⟩, ⟨some 8, none, .mv (.t 0)⟩, ⟨some 9, none, .call false 18 [(.t 8), (.k (.int .i64 6))]⟩, ⟨some 10, none, .ia 1 (.t 7) (.t 9)⟩, ⟨some 11, none, .ld none (.t 10)⟩, ⟨some 2, none, .mv (.t 11)⟩])
      .ret)
      (.seq (.reg [⟨some 13, none, .bin .eql 0 (.t 4) (.k (.int .i64 1))⟩, ⟨some 12, none, .mv (.t 13)⟩])
      (.cond (.t 12)
        (.seq (.reg [⟨some 2, none, .mv (.k (.int .i64 0))⟩])
        .ret)
        .skip))))))
  (.seq (.reg [⟨some 14, none, .mv (.t 0)⟩, ⟨some 15, none, .call false 18 [(.t 14), (.k (.int .i64 19))]⟩, ⟨some 16, none, .bin .sub 0 (.t 15) (.k (.int .i64 9))⟩, ⟨some 2, none, .mv (.t 16)⟩])
  .ret)))
set_option maxRecDepth 100000 in
theorem er17 : (Try.f17.body.bind (erC Try.prog cfg 17)) = some c17 := by kernel_rfl
theorem in17 {args : List AV} {σ : St} {Q : AV → St → Prop} (hlen : args.length ≤ 17) (h : σ.Wf → (∀ i, i < args.length → Hab (args.getD i .undef)) → SWP Try.prog σ.next c17 (retQ σ.next [.t 2] Q) (fun i => args.getD i .undef) σ) : TQ Try.prog 17 args σ Q := by
  obtain ⟨k, hb, hk⟩ := Option.bind_eq_some_iff.1 er17
  exact TQ_of (fn := Try.f17) Try.func17 (by kernel_rfl) hb (erC_is mixed hk) (by kernel_rfl) hlen h

/-! (*parquetry/parquetrykeep.Tape).Next -/
def c18 : C :=
  (.seq (.reg [⟨some 4, none, .mv (.k (.int .i64 0))⟩])
  (.seq (.seq (.drs [⟨some 5, none, .mv (.t 0)⟩, ⟨some 6, none, .nc (.t 5)⟩, ⟨some 7, none, .fa 1 (.t 6)⟩, ⟨some 8, none, .ld none (.t 7)⟩, ⟨some 9, none, .mv (.t 0)⟩, ⟨some 10, none, .nc (.t 9)⟩, ⟨some 11, none, .fa 0 (.t 10)⟩, ⟨some 12, none, .ld none (.t 11)⟩, ⟨some 13, none, .ln false (.t 12)⟩, ⟨some 14, none, .bin .geq 0 (.t 8) (.t 13)⟩, ⟨some 15, none, .mv (.t 14)⟩, ⟨some 16, (some (15, false)), .mv (.t 1)⟩, ⟨some 17, (some (15, false)), .bin .lss 0 (.t 16) (.k (.int .i64 1))⟩, ⟨some 18, none, .pk (.t 15) (.k (.bool true)) (.t 17)⟩])
  (.cond (.t 18)
    (.seq (.reg [⟨some 4, none, .mv (.k (.int .i64 0))⟩])
    .ret)
    .skip))
  (.seq (.reg [⟨some 19, none, .mv (.t 0)⟩, ⟨some 20, none, .nc (.t 19)⟩, ⟨some 21, none, .fa 1 (.t 20)⟩, ⟨some 22, none, .ld none (.t 21)⟩, ⟨some 23, none, .bin .add 0 (.t 22) (.k (.int .i64 1))⟩, ⟨some 24, none, .nc (.t 19)⟩, ⟨some 25, none, .fa 1 (.t 24)⟩, ⟨none, none, .st 1 (.t 25) (.t 23)⟩])
  (.seq (.drs [⟨some 26, none, .mv (.t 0)⟩, ⟨some 27, none, .nc (.t 26)⟩, ⟨some 28, none, .fa 0 (.t 27)⟩, ⟨some 29, none, .ld none (.t 28)⟩, ⟨some 30, none, .mv (.t 0)⟩, ⟨some 31, none, .nc (.t 30)⟩, ⟨some 32, none, .fa 1 (.t 31)⟩, ⟨some 33, none, .ld none (.t 32)⟩, ⟨some 34, none, .bin .sub 0 (.t 33) (.k (.int .i64 1))⟩, ⟨some 35, none, .ia 1 (.t 29) (.t 34)⟩, ⟨some 36, none, .ld none (.t 35)⟩, ⟨some 37, none, .call true 32 [(.t 36), (.k (.int .i64 0)), (.k (.int .i64 1073741824))]⟩, ⟨some 38, none, .mv (.t 1)⟩, ⟨some 39, none, .bin .rem 0 (.t 37) (.t 38)⟩, ⟨some 4, none, .mv (.t 39)⟩])
  .ret))))
set_option maxRecDepth 100000 in
theorem er18 : (Try.f18.body.bind (erC Try.prog cfg 40)) = some c18 := by kernel_rfl
theorem in18 {args : List AV} {σ : St} {Q : AV → St → Prop} (hlen : args.length ≤ 40) (h : σ.Wf → (∀ i, i < args.length → Hab (args.getD i .undef)) → SWP Try.prog σ.next c18 (retQ σ.next [.t 4] Q) (fun i => args.getD i .undef) σ) : TQ Try.prog 18 args σ Q := by
  obtain ⟨k, hb, hk⟩ := Option.bind_eq_some_iff.1 er18
  exact TQ_of (fn := Try.f18) Try.func18 (by kernel_rfl) hb (erC_is mixed hk) (by kernel_rfl) hlen h

/-! parquetry/datum.whole -/
def c19 : C :=
  (.seq (.reg [⟨some 2, none, .mv (.k (.int .i64 0))⟩])
  (.seq (.seq (.reg [⟨some 6, none, .mv (.t 0)⟩, ⟨some 7, none, .ta (.t 6) 3 true (.int .i64 0)⟩, ⟨some 5, none, .mv (.t 7)⟩, ⟨some 8, none, .ex (.t 5) 0⟩, ⟨some 9, none, .ex (.t 5) 1⟩, ⟨some 3, none, .mv (.t 8)⟩, ⟨some 4, none, .mv (.t 9)⟩])
  (.seq (.reg [⟨some 10, none, .mv (.t 4)⟩])
  (.cond (.t 10)
    (.seq (.reg [⟨some 11, none, .mv (.t 3)⟩, ⟨some 2, none, .mv (.t 11)⟩])
    .ret)
    .skip)))
  (.seq (.reg [⟨some 12, none, .mv (.t 0)⟩, ⟨some 13, none, .ta (.t 12) 2 false (.int .i64 0)⟩, ⟨some 2, none, .mv (.t 13)⟩])
  .ret)))
set_option maxRecDepth 100000 in
theorem er19 : (Try.f19.body.bind (erC Try.prog cfg 14)) = some c19 := by kernel_rfl
theorem in19 {args : List AV} {σ : St} {Q : AV → St → Prop} (hlen : args.length ≤ 14) (h : σ.Wf → (∀ i, i < args.length → Hab (args.getD i .undef)) → SWP Try.prog σ.next c19 (retQ σ.next [.t 2] Q) (fun i => args.getD i .undef) σ) : TQ Try.prog 19 args σ Q := by
  obtain ⟨k, hb, hk⟩ := Option.bind_eq_some_iff.1 er19
  exact TQ_of (fn := Try.f19) Try.func19 (by kernel_rfl) hb (erC_is mixed hk) (by kernel_rfl) hlen h

/-! parquetry/datum.row -/
def c20 : C :=
  (.seq (.reg [⟨some 2, none, .al [.lit 1 [], .lit 1 []]⟩, ⟨some 3, none, .mv (.k (.bool false))⟩])
  (.seq (.seq (.reg [⟨some 4, none, .mv (.t 0)⟩, ⟨some 5, none, .ln false (.t 4)⟩, ⟨some 6, none, .bin .gtr 0 (.t 5) (.k (.int .i64 32))⟩])
  (.cond (.t 6)
    (.seq (.reg [⟨some 7, none, .bd [.lit 1 [], .lit 1 []] []⟩, ⟨none, none, .st 2 (.t 2) (.t 7)⟩, ⟨some 3, none, .mv (.k (.bool false))⟩])
    .ret)
    .skip))
  (.seq (.reg [⟨some 8, none, .mv (.t 0)⟩, ⟨some 9, none, .ln false (.t 8)⟩, ⟨some 10, none, .bs false 1 [.int .i64 0] 1 [(0, (.t 9))]⟩, ⟨some 11, none, .mv (.t 0)⟩, ⟨some 12, none, .bd [.lit 1 [], .lit 1 []] [(0, 1, (.t 10)), (1, 1, (.t 11))]⟩, ⟨some 13, none, .call false 23 [(.t 12)]⟩, ⟨none, none, .st 2 (.t 2) (.t 13)⟩, ⟨some 3, none, .mv (.k (.bool true))⟩])
  .ret)))
set_option maxRecDepth 100000 in
theorem er20 : (Try.f20.body.bind (erC Try.prog cfg 14)) = some c20 := by kernel_rfl
theorem in20 {args : List AV} {σ : St} {Q : AV → St → Prop} (hlen : args.length ≤ 14) (h : σ.Wf → (∀ i, i < args.length → Hab (args.getD i .undef)) → SWP Try.prog σ.next c20 (retQ σ.next [.c (some 2) 2, .t 3] Q) (fun i => args.getD i .undef) σ) : TQ Try.prog 20 args σ Q := by
  obtain ⟨k, hb, hk⟩ := Option.bind_eq_some_iff.1 er20
  exact TQ_of (fn := Try.f20) Try.func20 (by kernel_rfl) hb (erC_is mixed hk) (by kernel_rfl) hlen h

/-! parquetry/datum.full -/
def c21 : C :=
  (.seq (.reg [⟨some 2, none, .al [.lit 1 [], .lit 1 []]⟩])
  (.seq (.seq (.reg [⟨some 6, none, .mv (.t 0)⟩, ⟨some 7, none, .ta (.t 6) 33 true (.nilp)⟩, ⟨some 5, none, .mv (.t 7)⟩, ⟨some 8, none, .ex (.t 5) 0⟩, ⟨some 9, none, .ex (.t 5) 1⟩, ⟨some 3, none, .mv (.t 8)⟩, ⟨some 4, none, .mv (.t 9)⟩])
  (.seq (.reg [⟨some 10, none, .mv (.t 4)⟩])
  (.cond (.t 10)
    (.seq (.reg [⟨some 11, none, .mv (.t 3)⟩, ⟨some 12, none, .nc (.t 11)⟩, ⟨some 13, none, .ld (some 2) (.t 12)⟩, ⟨none, none, .st 2 (.t 2) (.t 13)⟩])
    .ret)
    .skip)))
  (.seq (.reg [⟨some 14, none, .mv (.t 0)⟩, ⟨some 15, none, .ta (.t 14) 28 false (.agg [.lit 1 [], .lit 1 []])⟩, ⟨none, none, .st 2 (.t 2) (.t 15)⟩])
  .ret)))
set_option maxRecDepth 100000 in
theorem er21 : (Try.f21.body.bind (erC Try.prog cfg 16)) = some c21 := by kernel_rfl
theorem in21 {args : List AV} {σ : St} {Q : AV → St → Prop} (hlen : args.length ≤ 16) (h : σ.Wf → (∀ i, i < args.length → Hab (args.getD i .undef)) → SWP Try.prog σ.next c21 (retQ σ.next [.c (some 2) 2] Q) (fun i => args.getD i .undef) σ) : TQ Try.prog 21 args σ Q := by
  obtain ⟨k, hb, hk⟩ := Option.bind_eq_some_iff.1 er21
  exact TQ_of (fn := Try.f21) Try.func21 (by kernel_rfl) hb (erC_is mixed hk) (by kernel_rfl) hlen h

/-! parquetry/tensor.Right -/
def c22 : C :=
  (.seq (.reg [⟨some 1, none, .bx (.t 0)⟩, ⟨some 2, none, .mv (.k (.bool false))⟩])
  (.seq (.drs [⟨some 3, none, .fa 0 (.t 1)⟩, ⟨some 4, none, .ld none (.t 3)⟩, ⟨some 5, none, .call true 33 [(.t 4)]⟩, ⟨some 6, none, .mv (.t 5)⟩, ⟨some 7, (some (6, true)), .fa 1 (.t 1)⟩, ⟨some 8, (some (6, true)), .ld none (.t 7)⟩, ⟨some 9, (some (6, true)), .ln false (.t 8)⟩, ⟨some 10, (some (6, true)), .fa 0 (.t 1)⟩, ⟨some 11, (some (6, true)), .ld none (.t 10)⟩, ⟨some 12, (some (6, true)), .call true 34 [(.t 11)]⟩, ⟨some 13, (some (6, true)), .bin .eql 0 (.t 9) (.t 12)⟩, ⟨some 14, none, .pk (.t 6) (.t 13) (.k (.bool false))⟩, ⟨some 2, none, .mv (.t 14)⟩])
  .ret))
set_option maxRecDepth 100000 in
theorem er22 : (Try.f22.body.bind (erC Try.prog cfg 15)) = some c22 := by kernel_rfl
theorem in22 {args : List AV} {σ : St} {Q : AV → St → Prop} (hlen : args.length ≤ 15) (h : σ.Wf → (∀ i, i < args.length → Hab (args.getD i .undef)) → SWP Try.prog σ.next c22 (retQ σ.next [.t 2] Q) (fun i => args.getD i .undef) σ) : TQ Try.prog 22 args σ Q := by
  obtain ⟨k, hb, hk⟩ := Option.bind_eq_some_iff.1 er22
  exact TQ_of (fn := Try.f22) Try.func22 (by kernel_rfl) hb (erC_is mixed hk) (by kernel_rfl) hlen h

/-! parquetry/tensor.Copy -/
def c23 : C :=
  (.seq (.reg [⟨some 1, none, .bx (.t 0)⟩, ⟨some 2, none, .al [.lit 1 [], .lit 1 []]⟩])
  (.seq (.dr [[], [0], [1, 0], [], [3], [4, 2, 3, 1, 0], [2, 5, 1, 0, 4, 3], [6, 5, 0, 1, 2, 3, 4]] [⟨some 3, none, .fa 0 (.t 1)⟩, ⟨some 4, none, .ld none (.t 3)⟩, ⟨some 5, none, .call false 35 [(.t 4)]⟩, ⟨some 6, none, .fa 1 (.t 1)⟩, ⟨some 7, none, .ld none (.t 6)⟩, ⟨some 8, none, .call false 36 [(.t 7)]⟩, ⟨some 9, none, .bd [.lit 1 [], .lit 1 []] [(0, 1, (.t 5)), (1, 1, (.t 8))]⟩, ⟨none, none, .st 2 (.t 2) (.t 9)⟩])
  .ret))
set_option maxRecDepth 100000 in
theorem er23 : (Try.f23.body.bind (erC Try.prog cfg 10)) = some c23 := by kernel_rfl
theorem in23 {args : List AV} {σ : St} {Q : AV → St → Prop} (hlen : args.length ≤ 10) (h : σ.Wf → (∀ i, i < args.length → Hab (args.getD i .undef)) → SWP Try.prog σ.next c23 (retQ σ.next [.c (some 2) 2] Q) (fun i => args.getD i .undef) σ) : TQ Try.prog 23 args σ Q := by
  obtain ⟨k, hb, hk⟩ := Option.bind_eq_some_iff.1 er23
  exact TQ_of (fn := Try.f23) Try.func23 (by kernel_rfl) hb (erC_is mixed hk) (by kernel_rfl) hlen h

/-! parquetry/parquetrylaw3.whole -/
def c24 : C :=
  (.seq (.reg [⟨some 2, none, .bx (.t 0)⟩, ⟨some 4, none, .mv (.k (.bool false))⟩])
  (.seq (.reg [⟨some 5, none, .fa 0 (.t 2)⟩, ⟨some 6, none, .ld none (.t 5)⟩, ⟨some 7, none, .ln false (.t 6)⟩, ⟨some 8, none, .bin .eql 0 (.t 7) (.k (.int .i64 0))⟩, ⟨some 9, none, .mv (.t 8)⟩, ⟨some 10, (some (9, true)), .fa 1 (.t 2)⟩, ⟨some 11, (some (9, true)), .ld none (.t 10)⟩, ⟨some 12, (some (9, true)), .ln false (.t 11)⟩, ⟨some 13, (some (9, true)), .bin .eql 0 (.t 12) (.k (.int .i64 1))⟩, ⟨some 14, none, .pk (.t 9) (.t 13) (.k (.bool false))⟩, ⟨some 15, none, .mv (.t 14)⟩, ⟨some 16, (some (15, true)), .fa 1 (.t 2)⟩, ⟨some 17, (some (15, true)), .ld none (.t 16)⟩, ⟨some 18, (some (15, true)), .ia 1 (.t 17) (.k (.int .i64 0))⟩, ⟨some 19, (some (15, true)), .ld none (.t 18)⟩, ⟨some 20, (some (15, true)), .mv (.t 1)⟩, ⟨some 21, (some (15, true)), .bin .eql 0 (.t 19) (.t 20)⟩, ⟨some 22, none, .pk (.t 15) (.t 21) (.k (.bool false))⟩, ⟨some 4, none, .mv (.t 22)⟩])
  .ret))
set_option maxRecDepth 100000 in
theorem er24 : (Try.f24.body.bind (erC Try.prog cfg 23)) = some c24 := by kernel_rfl
theorem in24 {args : List AV} {σ : St} {Q : AV → St → Prop} (hlen : args.length ≤ 23) (h : σ.Wf → (∀ i, i < args.length → Hab (args.getD i .undef)) → SWP Try.prog σ.next c24 (retQ σ.next [.t 4] Q) (fun i => args.getD i .undef) σ) : TQ Try.prog 24 args σ Q := by
  obtain ⟨k, hb, hk⟩ := Option.bind_eq_some_iff.1 er24
  exact TQ_of (fn := Try.f24) Try.func24 (by kernel_rfl) hb (erC_is mixed hk) (by kernel_rfl) hlen h

/-! parquetry/parquetryref1.Tensor -/
def c26 : C :=
  (.seq (.reg [⟨some 1, none, .bx (.t 0)⟩, ⟨some 2, none, .mv (.k (.bool false))⟩])
  (.seq (.drs [⟨some 3, none, .fa 0 (.t 1)⟩, ⟨some 4, none, .ld none (.t 3)⟩, ⟨some 5, none, .call true 39 [(.t 4)]⟩, ⟨some 6, none, .mv (.t 5)⟩, ⟨some 7, (some (6, true)), .fa 1 (.t 1)⟩, ⟨some 8, (some (6, true)), .ld none (.t 7)⟩, ⟨some 9, (some (6, true)), .ln false (.t 8)⟩, ⟨some 10, (some (6, true)), .fa 0 (.t 1)⟩, ⟨some 11, (some (6, true)), .ld none (.t 10)⟩, ⟨some 12, (some (6, true)), .call true 31 [(.t 11)]⟩, ⟨some 13, (some (6, true)), .bin .eql 0 (.t 9) (.t 12)⟩, ⟨some 14, none, .pk (.t 6) (.t 13) (.k (.bool false))⟩, ⟨some 2, none, .mv (.t 14)⟩])
  .ret))
set_option maxRecDepth 100000 in
theorem er26 : (Try.f26.body.bind (erC Try.prog cfg 15)) = some c26 := by kernel_rfl
theorem in26 {args : List AV} {σ : St} {Q : AV → St → Prop} (hlen : args.length ≤ 15) (h : σ.Wf → (∀ i, i < args.length → Hab (args.getD i .undef)) → SWP Try.prog σ.next c26 (retQ σ.next [.t 2] Q) (fun i => args.getD i .undef) σ) : TQ Try.prog 26 args σ Q := by
  obtain ⟨k, hb, hk⟩ := Option.bind_eq_some_iff.1 er26
  exact TQ_of (fn := Try.f26) Try.func26 (by kernel_rfl) hb (erC_is mixed hk) (by kernel_rfl) hlen h

/-! parquetry/parquetryref9.Runes -/
def c27 : C :=
  (.seq (.reg [⟨some 2, none, .mv (.k (.nils))⟩])
  (.seq (.reg [⟨some 3, none, .mv (.k (.nils))⟩])
  (.seq (.seq (.reg [⟨some 6, none, .mv (.t 0)⟩, ⟨some 7, none, .rgs (.t 6)⟩])
  (.block 0
    (.loop
      (.seq (.reg [⟨some 8, none, .nxs (.t 7)⟩, ⟨some 9, none, .ex (.t 8) 0⟩])
      (.seq (.cond (.t 9)
        .skip
        (.exit 0))
      (.block 1
        (.seq (.reg [⟨some 10, none, .ex (.t 8) 2⟩, ⟨some 5, none, .mv (.t 10)⟩])
        (.reg [⟨some 11, none, .mv (.t 3)⟩, ⟨some 12, none, .mv (.t 5)⟩, ⟨some 13, none, .bs false 1 [.int .i32 0] 1 [(0, (.t 12))]⟩, ⟨some 14, none, .ap 1 4 (.t 11) (.t 13)⟩, ⟨some 3, none, .mv (.t 14)⟩]))))))))
  (.seq (.reg [⟨some 15, none, .mv (.t 3)⟩, ⟨some 2, none, .mv (.t 15)⟩])
  .ret))))
set_option maxRecDepth 100000 in
theorem er27 : (Try.f27.body.bind (erC Try.prog cfg 16)) = some c27 := by kernel_rfl
theorem in27 {args : List AV} {σ : St} {Q : AV → St → Prop} (hlen : args.length ≤ 16) (h : σ.Wf → (∀ i, i < args.length → Hab (args.getD i .undef)) → SWP Try.prog σ.next c27 (retQ σ.next [.t 2] Q) (fun i => args.getD i .undef) σ) : TQ Try.prog 27 args σ Q := by
  obtain ⟨k, hb, hk⟩ := Option.bind_eq_some_iff.1 er27
  exact TQ_of (fn := Try.f27) Try.func27 (by kernel_rfl) hb (erC_is mixed hk) (by kernel_rfl) hlen h

/-! parquetry/parquetrylaw3.tells -/
def c28 : C :=
  (.seq (.reg [⟨some 6, none, .bx (.t 2)⟩, ⟨some 8, none, .mv (.k (.bool false))⟩])
  (.seq (.reg [⟨some 13, none, .mv (.t 0)⟩, ⟨some 14, none, .call false 9 [(.t 13)]⟩, ⟨some 12, none, .mv (.t 14)⟩, ⟨some 15, none, .ex (.t 12) 0⟩, ⟨some 16, none, .ex (.t 12) 1⟩, ⟨some 9, none, .al [.lit 1 [], .lit 1 []]⟩, ⟨none, none, .st 2 (.t 9) (.t 15)⟩, ⟨some 10, none, .mv (.t 16)⟩])
  (.seq (.reg [⟨some 17, none, .mv (.t 0)⟩, ⟨some 18, none, .call false 25 [(.t 17)]⟩, ⟨some 11, none, .al [.lit 1 [], .lit 1 []]⟩, ⟨none, none, .st 2 (.t 11) (.t 18)⟩])
  (.seq (.seq (.reg [⟨some 19, none, .mv (.t 0)⟩, ⟨some 20, none, .call true 16 [(.t 19)]⟩, ⟨some 21, none, .mv (.t 1)⟩, ⟨some 22, none, .bin .neq 0 (.t 20) (.t 21)⟩, ⟨some 23, none, .mv (.t 22)⟩, ⟨some 24, (some (23, false)), .mv (.t 10)⟩, ⟨some 25, (some (23, false)), .mv (.t 3)⟩, ⟨some 26, (some (23, false)), .bin .neq 1 (.t 24) (.t 25)⟩, ⟨some 27, none, .pk (.t 23) (.k (.bool true)) (.t 26)⟩])
  (.cond (.t 27)
    (.seq (.reg [⟨some 8, none, .mv (.k (.bool false))⟩])
    .ret)
    .skip))
  (.seq (.seq (.reg [⟨some 28, none, .mv (.t 3)⟩, ⟨some 29, none, .un .not (.t 28)⟩])
  (.cond (.t 29)
    (.seq (.reg [⟨some 30, none, .fa 0 (.t 9)⟩, ⟨some 31, none, .ld none (.t 30)⟩, ⟨some 32, none, .ln false (.t 31)⟩, ⟨some 33, none, .bin .eql 0 (.t 32) (.k (.int .i64 0))⟩, ⟨some 34, none, .mv (.t 33)⟩, ⟨some 35, (some (34, true)), .fa 1 (.t 9)⟩, ⟨some 36, (some (34, true)), .ld none (.t 35)⟩, ⟨some 37, (some (34, true)), .ln false (.t 36)⟩, ⟨some 38, (some (34, true)), .bin .eql 0 (.t 37) (.k (.int .i64 0))⟩, ⟨some 39, none, .pk (.t 34) (.t 38) (.k (.bool false))⟩, ⟨some 40, none, .mv (.t 39)⟩, ⟨some 41, (some (40, true)), .ld (some 2) (.t 11)⟩, ⟨some 42, (some (40, true)), .call true 24 [(.t 41), (.k (.int .i64 (-1)))]⟩, ⟨some 43, none, .pk (.t 40) (.t 42) (.k (.bool false))⟩, ⟨some 8, none, .mv (.t 43)⟩])
    .ret)
    .skip))
  (.seq (.reg [⟨some 44, none, .ld (some 2) (.t 9)⟩, ⟨some 45, none, .ld (some 2) (.t 6)⟩, ⟨some 46, none, .call true 40 [(.t 44), (.t 45)]⟩, ⟨some 47, none, .mv (.t 46)⟩, ⟨some 48, (some (47, true)), .ld (some 2) (.t 11)⟩, ⟨some 49, (some (47, true)), .ld (some 2) (.t 6)⟩, ⟨some 50, (some (47, true)), .call true 40 [(.t 48), (.t 49)]⟩, ⟨some 51, none, .pk (.t 47) (.t 50) (.k (.bool false))⟩, ⟨some 8, none, .mv (.t 51)⟩])
  .ret))))))
set_option maxRecDepth 100000 in
theorem er28 : (Try.f28.body.bind (erC Try.prog cfg 52)) = some c28 := by kernel_rfl
theorem in28 {args : List AV} {σ : St} {Q : AV → St → Prop} (hlen : args.length ≤ 52) (h : σ.Wf → (∀ i, i < args.length → Hab (args.getD i .undef)) → SWP Try.prog σ.next c28 (retQ σ.next [.t 8] Q) (fun i => args.getD i .undef) σ) : TQ Try.prog 28 args σ Q := by
  obtain ⟨k, hb, hk⟩ := Option.bind_eq_some_iff.1 er28
  exact TQ_of (fn := Try.f28) Try.func28 (by kernel_rfl) hb (erC_is mixed hk) (by kernel_rfl) hlen h

/-! parquetry/parquetrylaw3.row -/
def c29 : C :=
  (.seq (.reg [⟨some 2, none, .al [.lit 1 [], .lit 1 []]⟩])
  (.seq (.reg [⟨some 3, none, .mv (.t 0)⟩, ⟨some 4, none, .ln false (.t 3)⟩, ⟨some 5, none, .bs false 1 [.int .i64 0] 1 [(0, (.t 4))]⟩, ⟨some 6, none, .bs false 1 [.int .i64 0] 0 []⟩, ⟨some 7, none, .mv (.t 0)⟩, ⟨some 8, none, .ap 1 8 (.t 6) (.t 7)⟩, ⟨some 9, none, .bd [.lit 1 [], .lit 1 []] [(0, 1, (.t 5)), (1, 1, (.t 8))]⟩, ⟨none, none, .st 2 (.t 2) (.t 9)⟩])
  .ret))
set_option maxRecDepth 100000 in
theorem er29 : (Try.f29.body.bind (erC Try.prog cfg 10)) = some c29 := by kernel_rfl
theorem in29 {args : List AV} {σ : St} {Q : AV → St → Prop} (hlen : args.length ≤ 10) (h : σ.Wf → (∀ i, i < args.length → Hab (args.getD i .undef)) → SWP Try.prog σ.next c29 (retQ σ.next [.c (some 2) 2] Q) (fun i => args.getD i .undef) σ) : TQ Try.prog 29 args σ Q := by
  obtain ⟨k, hb, hk⟩ := Option.bind_eq_some_iff.1 er29
  exact TQ_of (fn := Try.f29) Try.func29 (by kernel_rfl) hb (erC_is mixed hk) (by kernel_rfl) hlen h

/-! parquetry/parquetrylaw3.runes -/
def c30 : C :=
  (.seq (.reg [⟨some 2, none, .al [.lit 1 [], .lit 1 []]⟩])
  (.seq (.reg [⟨some 3, none, .mv (.k (.nils))⟩])
  (.seq (.seq (.reg [⟨some 6, none, .mv (.t 0)⟩, ⟨some 7, none, .call true 27 [(.t 6)]⟩, ⟨some 8, none, .ln false (.t 7)⟩, ⟨some 9, none, .mv (.k (.int .i64 0))⟩])
  (.block 0
    (.loop
      (.seq (.reg [⟨some 10, none, .bin .lss 0 (.t 9) (.t 8)⟩])
      (.seq (.cond (.t 10)
        .skip
        (.exit 0))
      (.seq (.block 1
        (.seq (.reg [⟨some 11, none, .ia 1 (.t 7) (.t 9)⟩, ⟨some 12, none, .ld none (.t 11)⟩, ⟨some 5, none, .mv (.t 12)⟩])
        (.reg [⟨some 13, none, .mv (.t 3)⟩, ⟨some 14, none, .mv (.t 5)⟩, ⟨some 15, none, .cv .i64 (.t 14)⟩, ⟨some 16, none, .bs false 1 [.int .i64 0] 1 [(0, (.t 15))]⟩, ⟨some 17, none, .ap 1 8 (.t 13) (.t 16)⟩, ⟨some 3, none, .mv (.t 17)⟩])))
      (.reg [⟨some 18, none, .bin .add 0 (.t 9) (.k (.int .i64 1))⟩, ⟨some 9, none, .mv (.t 18)⟩])))))))
  (.seq (.reg [⟨some 19, none, .mv (.t 3)⟩, ⟨some 20, none, .call true 29 [(.t 19)]⟩, ⟨none, none, .st 2 (.t 2) (.t 20)⟩])
  .ret))))
set_option maxRecDepth 100000 in
theorem er30 : (Try.f30.body.bind (erC Try.prog cfg 21)) = some c30 := by kernel_rfl
theorem in30 {args : List AV} {σ : St} {Q : AV → St → Prop} (hlen : args.length ≤ 21) (h : σ.Wf → (∀ i, i < args.length → Hab (args.getD i .undef)) → SWP Try.prog σ.next c30 (retQ σ.next [.c (some 2) 2] Q) (fun i => args.getD i .undef) σ) : TQ Try.prog 30 args σ Q := by
  obtain ⟨k, hb, hk⟩ := Option.bind_eq_some_iff.1 er30
  exact TQ_of (fn := Try.f30) Try.func30 (by kernel_rfl) hb (erC_is mixed hk) (by kernel_rfl) hlen h

/-! parquetry/parquetryref1.Size -/
def c31 : C :=
  (.seq (.reg [⟨some 2, none, .mv (.k (.int .i64 0))⟩])
  (.seq (.seq (.reg [⟨some 5, none, .mv (.t 0)⟩, ⟨some 6, none, .call true 39 [(.t 5)]⟩, ⟨some 7, none, .un .not (.t 6)⟩])
  (.cond (.t 7)
    (.seq (.reg [⟨some 2, none, .mv (.k (.int .i64 0))⟩])
    .ret)
    .skip))
  (.seq (.reg [⟨some 3, none, .mv (.k (.int .i64 1))⟩])
  (.seq (.seq (.reg [⟨some 4, none, .mv (.k (.int .i64 0))⟩])
  (.block 0
    (.loop
      (.seq (.seq (.reg [⟨some 8, none, .mv (.t 4)⟩, ⟨some 9, none, .mv (.t 0)⟩, ⟨some 10, none, .ln false (.t 9)⟩, ⟨some 11, none, .bin .lss 0 (.t 8) (.t 10)⟩])
      (.cond (.t 11)
        .skip
        (.exit 0)))
      (.seq (.block 1
        (.reg [⟨some 14, none, .mv (.t 3)⟩, ⟨some 15, none, .mv (.t 0)⟩, ⟨some 16, none, .mv (.t 4)⟩, ⟨some 17, none, .ia 1 (.t 15) (.t 16)⟩, ⟨some 18, none, .ld none (.t 17)⟩, ⟨some 19, none, .bin .mul 0 (.t 14) (.t 18)⟩, ⟨some 3, none, .mv (.t 19)⟩]))
      (.reg [⟨some 12, none, .mv (.t 4)⟩, ⟨some 13, none, .bin .add 0 (.t 12) (.k (.int .i64 1))⟩, ⟨some 4, none, .mv (.t 13)⟩]))))))
  (.seq (.reg [⟨some 20, none, .mv (.t 3)⟩, ⟨some 2, none, .mv (.t 20)⟩])
  .ret)))))
set_option maxRecDepth 100000 in
theorem er31 : (Try.f31.body.bind (erC Try.prog cfg 21)) = some c31 := by kernel_rfl
theorem in31 {args : List AV} {σ : St} {Q : AV → St → Prop} (hlen : args.length ≤ 21) (h : σ.Wf → (∀ i, i < args.length → Hab (args.getD i .undef)) → SWP Try.prog σ.next c31 (retQ σ.next [.t 2] Q) (fun i => args.getD i .undef) σ) : TQ Try.prog 31 args σ Q := by
  obtain ⟨k, hb, hk⟩ := Option.bind_eq_some_iff.1 er31
  exact TQ_of (fn := Try.f31) Try.func31 (by kernel_rfl) hb (erC_is mixed hk) (by kernel_rfl) hlen h

/-! parquetry/parquetrybook.Within -/
def c32 : C :=
  (.seq (.reg [⟨some 6, none, .mv (.k (.int .i64 0))⟩])
  (.seq (.seq (.reg [⟨some 7, none, .mv (.t 0)⟩, ⟨some 8, none, .mv (.t 1)⟩, ⟨some 9, none, .bin .geq 0 (.t 7) (.t 8)⟩, ⟨some 10, none, .mv (.t 9)⟩, ⟨some 11, (some (10, true)), .mv (.t 0)⟩, ⟨some 12, (some (10, true)), .mv (.t 2)⟩, ⟨some 13, (some (10, true)), .bin .leq 0 (.t 11) (.t 12)⟩, ⟨some 14, none, .pk (.t 10) (.t 13) (.k (.bool false))⟩])
  (.cond (.t 14)
    (.seq (.reg [⟨some 15, none, .mv (.t 0)⟩, ⟨some 6, none, .mv (.t 15)⟩])
    .ret)
    .skip))
  (.seq (.reg [⟨some 16, none, .mv (.t 0)⟩, ⟨some 17, none, .mv (.t 2)⟩, ⟨some 18, none, .mv (.t 1)⟩, ⟨some 19, none, .bin .sub 0 (.t 17) (.t 18)⟩, ⟨some 20, none, .bin .add 0 (.t 19) (.k (.int .i64 1))⟩, ⟨some 21, none, .bin .rem 0 (.t 16) (.t 20)⟩, ⟨some 0, none, .mv (.t 21)⟩])
  (.seq (.seq (.reg [⟨some 22, none, .mv (.t 0)⟩, ⟨some 23, none, .bin .lss 0 (.t 22) (.k (.int .i64 0))⟩])
  (.cond (.t 23)
    (.reg [⟨some 24, none, .mv (.t 0)⟩, ⟨some 25, none, .mv (.t 2)⟩, ⟨some 26, none, .bin .add 0 (.t 24) (.t 25)⟩, ⟨some 27, none, .mv (.t 1)⟩, ⟨some 28, none, .bin .sub 0 (.t 26) (.t 27)⟩, ⟨some 29, none, .bin .add 0 (.t 28) (.k (.int .i64 1))⟩, ⟨some 0, none, .mv (.t 29)⟩])
    .skip))
  (.seq (.reg [⟨some 30, none, .mv (.t 1)⟩, ⟨some 31, none, .mv (.t 0)⟩, ⟨some 32, none, .bin .add 0 (.t 30) (.t 31)⟩, ⟨some 6, none, .mv (.t 32)⟩])
  .ret)))))
set_option maxRecDepth 100000 in
theorem er32 : (Try.f32.body.bind (erC Try.prog cfg 33)) = some c32 := by kernel_rfl
theorem in32 {args : List AV} {σ : St} {Q : AV → St → Prop} (hlen : args.length ≤ 33) (h : σ.Wf → (∀ i, i < args.length → Hab (args.getD i .undef)) → SWP Try.prog σ.next c32 (retQ σ.next [.t 6] Q) (fun i => args.getD i .undef) σ) : TQ Try.prog 32 args σ Q := by
  obtain ⟨k, hb, hk⟩ := Option.bind_eq_some_iff.1 er32
  exact TQ_of (fn := Try.f32) Try.func32 (by kernel_rfl) hb (erC_is mixed hk) (by kernel_rfl) hlen h

/-! parquetry/shape.Right -/
def c33 : C :=
  (.seq (.reg [⟨some 2, none, .mv (.k (.bool false))⟩])
  (.seq (.seq (.reg [⟨some 6, none, .mv (.t 0)⟩, ⟨some 7, none, .ln false (.t 6)⟩, ⟨some 8, none, .bin .gtr 0 (.t 7) (.k (.int .i64 4))⟩])
  (.cond (.t 8)
    (.seq (.reg [⟨some 2, none, .mv (.k (.bool false))⟩])
    .ret)
    .skip))
  (.seq (.reg [⟨some 3, none, .mv (.k (.int .i64 1))⟩])
  (.seq (.seq (.reg [⟨some 9, none, .mv (.t 0)⟩, ⟨some 10, none, .ln false (.t 9)⟩, ⟨some 11, none, .mv (.k (.int .i64 0))⟩])
  (.block 0
    (.loop
      (.seq (.reg [⟨some 12, none, .bin .lss 0 (.t 11) (.t 10)⟩])
      (.seq (.cond (.t 12)
        .skip
        (.exit 0))
      (.seq (.block 1
        (.seq (.reg [⟨some 13, none, .ia 1 (.t 9) (.t 11)⟩, ⟨some 14, none, .ld none (.t 13)⟩, ⟨some 5, none, .mv (.t 14)⟩])
        (.seq (.seq (.reg [⟨some 15, none, .mv (.t 5)⟩, ⟨some 16, none, .bin .lss 0 (.t 15) (.k (.int .i64 0))⟩, ⟨some 17, none, .mv (.t 16)⟩, ⟨some 18, (some (17, false)), .mv (.t 5)⟩, ⟨some 19, (some (17, false)), .bin .gtr 0 (.t 18) (.k (.int .i64 32))⟩, ⟨some 20, none, .pk (.t 17) (.k (.bool true)) (.t 19)⟩])
        (.cond (.t 20)
          (.seq (.reg [⟨some 2, none, .mv (.k (.bool false))⟩])
          .ret)
          .skip))
        (.reg [⟨some 21, none, .mv (.t 3)⟩, ⟨some 22, none, .mv (.t 5)⟩, ⟨some 23, none, .bin .mul 0 (.t 21) (.t 22)⟩, ⟨some 3, none, .mv (.t 23)⟩]))))
      (.reg [⟨some 24, none, .bin .add 0 (.t 11) (.k (.int .i64 1))⟩, ⟨some 11, none, .mv (.t 24)⟩])))))))
  (.seq (.reg [⟨some 25, none, .mv (.t 3)⟩, ⟨some 26, none, .bin .leq 0 (.t 25) (.k (.int .i64 4096))⟩, ⟨some 2, none, .mv (.t 26)⟩])
  .ret)))))
set_option maxRecDepth 100000 in
theorem er33 : (Try.f33.body.bind (erC Try.prog cfg 27)) = some c33 := by kernel_rfl
theorem in33 {args : List AV} {σ : St} {Q : AV → St → Prop} (hlen : args.length ≤ 27) (h : σ.Wf → (∀ i, i < args.length → Hab (args.getD i .undef)) → SWP Try.prog σ.next c33 (retQ σ.next [.t 2] Q) (fun i => args.getD i .undef) σ) : TQ Try.prog 33 args σ Q := by
  obtain ⟨k, hb, hk⟩ := Option.bind_eq_some_iff.1 er33
  exact TQ_of (fn := Try.f33) Try.func33 (by kernel_rfl) hb (erC_is mixed hk) (by kernel_rfl) hlen h

/-! parquetry/shape.Size -/
def c34 : C :=
  (.seq (.reg [⟨some 2, none, .mv (.k (.int .i64 0))⟩])
  (.seq (.seq (.reg [⟨some 6, none, .mv (.t 0)⟩, ⟨some 7, none, .call true 33 [(.t 6)]⟩, ⟨some 8, none, .un .not (.t 7)⟩])
  (.cond (.t 8)
    (.seq (.reg [⟨some 2, none, .mv (.k (.int .i64 0))⟩])
    .ret)
    .skip))
  (.seq (.reg [⟨some 3, none, .mv (.k (.int .i64 1))⟩])
  (.seq (.seq (.reg [⟨some 9, none, .mv (.t 0)⟩, ⟨some 10, none, .ln false (.t 9)⟩, ⟨some 11, none, .mv (.k (.int .i64 0))⟩])
  (.block 0
    (.loop
      (.seq (.reg [⟨some 12, none, .bin .lss 0 (.t 11) (.t 10)⟩])
      (.seq (.cond (.t 12)
        .skip
        (.exit 0))
      (.seq (.block 1
        (.seq (.reg [⟨some 13, none, .ia 1 (.t 9) (.t 11)⟩, ⟨some 14, none, .ld none (.t 13)⟩, ⟨some 5, none, .mv (.t 14)⟩])
        (.reg [⟨some 15, none, .mv (.t 3)⟩, ⟨some 16, none, .mv (.t 5)⟩, ⟨some 17, none, .bin .mul 0 (.t 15) (.t 16)⟩, ⟨some 3, none, .mv (.t 17)⟩])))
      (.reg [⟨some 18, none, .bin .add 0 (.t 11) (.k (.int .i64 1))⟩, ⟨some 11, none, .mv (.t 18)⟩])))))))
  (.seq (.reg [⟨some 19, none, .mv (.t 3)⟩, ⟨some 2, none, .mv (.t 19)⟩])
  .ret)))))
set_option maxRecDepth 100000 in
theorem er34 : (Try.f34.body.bind (erC Try.prog cfg 20)) = some c34 := by kernel_rfl
theorem in34 {args : List AV} {σ : St} {Q : AV → St → Prop} (hlen : args.length ≤ 20) (h : σ.Wf → (∀ i, i < args.length → Hab (args.getD i .undef)) → SWP Try.prog σ.next c34 (retQ σ.next [.t 2] Q) (fun i => args.getD i .undef) σ) : TQ Try.prog 34 args σ Q := by
  obtain ⟨k, hb, hk⟩ := Option.bind_eq_some_iff.1 er34
  exact TQ_of (fn := Try.f34) Try.func34 (by kernel_rfl) hb (erC_is mixed hk) (by kernel_rfl) hlen h

/-! slices.Clone[[]int,int] -/
def c35 : C :=
  (.seq (.reg [⟨some 2, none, .mv (.k (.nils))⟩])
  (.seq (.seq (.reg [⟨some 3, none, .mv (.t 0)⟩, ⟨some 4, none, .bin .eql 3 (.t 3) (.k (.nils))⟩])
  (.cond (.t 4)
    (.seq (.reg [⟨some 2, none, .mv (.k (.nils))⟩])
    .ret)
    .skip))
  (.seq (.reg [⟨some 5, none, .bs false 1 [.int .i64 0] 0 []⟩, ⟨some 6, none, .mv (.t 0)⟩, ⟨some 7, none, .ap 1 8 (.t 5) (.t 6)⟩, ⟨some 2, none, .mv (.t 7)⟩])
  .ret)))
set_option maxRecDepth 100000 in
theorem er35 : (Try.f35.body.bind (erC Try.prog cfg 8)) = some c35 := by kernel_rfl
theorem in35 {args : List AV} {σ : St} {Q : AV → St → Prop} (hlen : args.length ≤ 8) (h : σ.Wf → (∀ i, i < args.length → Hab (args.getD i .undef)) → SWP Try.prog σ.next c35 (retQ σ.next [.t 2] Q) (fun i => args.getD i .undef) σ) : TQ Try.prog 35 args σ Q := by
  obtain ⟨k, hb, hk⟩ := Option.bind_eq_some_iff.1 er35
  exact TQ_of (fn := Try.f35) Try.func35 (by kernel_rfl) hb (erC_is mixed hk) (by kernel_rfl) hlen h

/-! slices.Clone[[]int64,int64] -/
def c36 : C :=
  (.seq (.reg [⟨some 2, none, .mv (.k (.nils))⟩])
  (.seq (.seq (.reg [⟨some 3, none, .mv (.t 0)⟩, ⟨some 4, none, .bin .eql 3 (.t 3) (.k (.nils))⟩])
  (.cond (.t 4)
    (.seq (.reg [⟨some 2, none, .mv (.k (.nils))⟩])
    .ret)
    .skip))
  (.seq (.reg [⟨some 5, none, .bs false 1 [.int .i64 0] 0 []⟩, ⟨some 6, none, .mv (.t 0)⟩, ⟨some 7, none, .ap 1 8 (.t 5) (.t 6)⟩, ⟨some 2, none, .mv (.t 7)⟩])
  .ret)))
set_option maxRecDepth 100000 in
theorem er36 : (Try.f36.body.bind (erC Try.prog cfg 8)) = some c36 := by kernel_rfl
theorem in36 {args : List AV} {σ : St} {Q : AV → St → Prop} (hlen : args.length ≤ 8) (h : σ.Wf → (∀ i, i < args.length → Hab (args.getD i .undef)) → SWP Try.prog σ.next c36 (retQ σ.next [.t 2] Q) (fun i => args.getD i .undef) σ) : TQ Try.prog 36 args σ Q := by
  obtain ⟨k, hb, hk⟩ := Option.bind_eq_some_iff.1 er36
  exact TQ_of (fn := Try.f36) Try.func36 (by kernel_rfl) hb (erC_is mixed hk) (by kernel_rfl) hlen h

/-! parquetry/parquetryref1.Right -/
def c39 : C :=
  (.seq (.reg [⟨some 2, none, .mv (.k (.bool false))⟩])
  (.seq (.reg [⟨some 3, none, .mv (.k (.int .i64 1))⟩])
  (.seq (.seq (.reg [⟨some 4, none, .mv (.k (.int .i64 0))⟩])
  (.block 0
    (.loop
      (.seq (.seq (.reg [⟨some 5, none, .mv (.t 4)⟩, ⟨some 6, none, .mv (.t 0)⟩, ⟨some 7, none, .ln false (.t 6)⟩, ⟨some 8, none, .bin .lss 0 (.t 5) (.t 7)⟩])
      (.cond (.t 8)
        .skip
        (.exit 0)))
      (.seq (.block 1
        (.seq (.seq (.reg [⟨some 11, none, .mv (.t 0)⟩, ⟨some 12, none, .mv (.t 4)⟩, ⟨some 13, none, .ia 1 (.t 11) (.t 12)⟩, ⟨some 14, none, .ld none (.t 13)⟩, ⟨some 15, none, .bin .lss 0 (.t 14) (.k (.int .i64 0))⟩, ⟨some 16, none, .mv (.t 15)⟩, ⟨some 17, (some (16, false)), .mv (.t 0)⟩, ⟨some 18, (some (16, false)), .mv (.t 4)⟩, ⟨some 19, (some (16, false)), .ia 1 (.t 17) (.t 18)⟩, ⟨some 20, (some (16, false)), .ld none (.t 19)⟩, ⟨some 21, (some (16, false)), .bin .gtr 0 (.t 20) (.k (.int .i64 32))⟩, ⟨some 22, none, .pk (.t 16) (.k (.bool true)) (.t 21)⟩, ⟨some 23, none, .mv (.t 22)⟩, ⟨some 24, (some (23, false)), .mv (.t 4)⟩, ⟨some 25, (some (23, false)), .bin .geq 0 (.t 24) (.k (.int .i64 4))⟩, ⟨some 26, none, .pk (.t 23) (.k (.bool true)) (.t 25)⟩])
        (.cond (.t 26)
          (.seq (.reg [⟨some 2, none, .mv (.k (.bool false))⟩])
          .ret)
          .skip))
        (.reg [⟨some 27, none, .mv (.t 3)⟩, ⟨some 28, none, .mv (.t 0)⟩, ⟨some 29, none, .mv (.t 4)⟩, ⟨some 30, none, .ia 1 (.t 28) (.t 29)⟩, ⟨some 31, none, .ld none (.t 30)⟩, ⟨some 32, none, .bin .mul 0 (.t 27) (.t 31)⟩, ⟨some 3, none, .mv (.t 32)⟩])))
      (.reg [⟨some 9, none, .mv (.t 4)⟩, ⟨some 10, none, .bin .add 0 (.t 9) (.k (.int .i64 1))⟩, ⟨some 4, none, .mv (.t 10)⟩]))))))
  (.seq (.reg [⟨some 33, none, .mv (.t 3)⟩, ⟨some 34, none, .bin .leq 0 (.t 33) (.k (.int .i64 4096))⟩, ⟨some 2, none, .mv (.t 34)⟩])
  .ret))))
set_option maxRecDepth 100000 in
theorem er39 : (Try.f39.body.bind (erC Try.prog cfg 35)) = some c39 := by kernel_rfl
theorem in39 {args : List AV} {σ : St} {Q : AV → St → Prop} (hlen : args.length ≤ 35) (h : σ.Wf → (∀ i, i < args.length → Hab (args.getD i .undef)) → SWP Try.prog σ.next c39 (retQ σ.next [.t 2] Q) (fun i => args.getD i .undef) σ) : TQ Try.prog 39 args σ Q := by
  obtain ⟨k, hb, hk⟩ := Option.bind_eq_some_iff.1 er39
  exact TQ_of (fn := Try.f39) Try.func39 (by kernel_rfl) hb (erC_is mixed hk) (by kernel_rfl) hlen h

/-! parquetry/parquetryref1.Same -/
def c40 : C :=
  (.seq (.reg [⟨some 2, none, .bx (.t 0)⟩, ⟨some 3, none, .bx (.t 1)⟩, ⟨some 4, none, .mv (.k (.bool false))⟩])
  (.seq (.seq (.reg [⟨some 6, none, .fa 0 (.t 2)⟩, ⟨some 7, none, .ld none (.t 6)⟩, ⟨some 8, none, .fa 0 (.t 3)⟩, ⟨some 9, none, .ld none (.t 8)⟩, ⟨some 10, none, .call true 41 [(.t 7), (.t 9)]⟩, ⟨some 11, none, .un .not (.t 10)⟩, ⟨some 12, none, .mv (.t 11)⟩, ⟨some 13, (some (12, false)), .fa 1 (.t 2)⟩, ⟨some 14, (some (12, false)), .ld none (.t 13)⟩, ⟨some 15, (some (12, false)), .ln false (.t 14)⟩, ⟨some 16, (some (12, false)), .fa 1 (.t 3)⟩, ⟨some 17, (some (12, false)), .ld none (.t 16)⟩, ⟨some 18, (some (12, false)), .ln false (.t 17)⟩, ⟨some 19, (some (12, false)), .bin .neq 0 (.t 15) (.t 18)⟩, ⟨some 20, none, .pk (.t 12) (.k (.bool true)) (.t 19)⟩])
  (.cond (.t 20)
    (.seq (.reg [⟨some 4, none, .mv (.k (.bool false))⟩])
    .ret)
    .skip))
  (.seq (.seq (.reg [⟨some 5, none, .mv (.k (.int .i64 0))⟩])
  (.block 0
    (.loop
      (.seq (.seq (.reg [⟨some 21, none, .mv (.t 5)⟩, ⟨some 22, none, .fa 1 (.t 2)⟩, ⟨some 23, none, .ld none (.t 22)⟩, ⟨some 24, none, .ln false (.t 23)⟩, ⟨some 25, none, .bin .lss 0 (.t 21) (.t 24)⟩])
      (.cond (.t 25)
        .skip
        (.exit 0)))
      (.seq (.block 1
        (.seq (.drs [⟨some 28, none, .fa 1 (.t 2)⟩, ⟨some 29, none, .ld none (.t 28)⟩, ⟨some 30, none, .mv (.t 5)⟩, ⟨some 31, none, .ia 1 (.t 29) (.t 30)⟩, ⟨some 32, none, .ld none (.t 31)⟩, ⟨some 33, none, .fa 1 (.t 3)⟩, ⟨some 34, none, .ld none (.t 33)⟩, ⟨some 35, none, .mv (.t 5)⟩, ⟨some 36, none, .ia 1 (.t 34) (.t 35)⟩, ⟨some 37, none, .ld none (.t 36)⟩, ⟨some 38, none, .bin .neq 0 (.t 32) (.t 37)⟩])
        (.cond (.t 38)
          (.seq (.reg [⟨some 4, none, .mv (.k (.bool false))⟩])
          .ret)
          .skip)))
      (.reg [⟨some 26, none, .mv (.t 5)⟩, ⟨some 27, none, .bin .add 0 (.t 26) (.k (.int .i64 1))⟩, ⟨some 5, none, .mv (.t 27)⟩]))))))
  (.seq (.reg [⟨some 4, none, .mv (.k (.bool true))⟩])
  .ret))))
set_option maxRecDepth 100000 in
theorem er40 : (Try.f40.body.bind (erC Try.prog cfg 39)) = some c40 := by kernel_rfl
theorem in40 {args : List AV} {σ : St} {Q : AV → St → Prop} (hlen : args.length ≤ 39) (h : σ.Wf → (∀ i, i < args.length → Hab (args.getD i .undef)) → SWP Try.prog σ.next c40 (retQ σ.next [.t 4] Q) (fun i => args.getD i .undef) σ) : TQ Try.prog 40 args σ Q := by
  obtain ⟨k, hb, hk⟩ := Option.bind_eq_some_iff.1 er40
  exact TQ_of (fn := Try.f40) Try.func40 (by kernel_rfl) hb (erC_is mixed hk) (by kernel_rfl) hlen h

/-! parquetry/parquetryref1.Ints -/
def c41 : C :=
  (.seq (.reg [⟨some 4, none, .mv (.k (.bool false))⟩])
  (.seq (.seq (.reg [⟨some 6, none, .mv (.t 0)⟩, ⟨some 7, none, .ln false (.t 6)⟩, ⟨some 8, none, .mv (.t 1)⟩, ⟨some 9, none, .ln false (.t 8)⟩, ⟨some 10, none, .bin .neq 0 (.t 7) (.t 9)⟩])
  (.cond (.t 10)
    (.seq (.reg [⟨some 4, none, .mv (.k (.bool false))⟩])
    .ret)
    .skip))
  (.seq (.seq (.reg [⟨some 5, none, .mv (.k (.int .i64 0))⟩])
  (.block 0
    (.loop
      (.seq (.seq (.reg [⟨some 11, none, .mv (.t 5)⟩, ⟨some 12, none, .mv (.t 0)⟩, ⟨some 13, none, .ln false (.t 12)⟩, ⟨some 14, none, .bin .lss 0 (.t 11) (.t 13)⟩])
      (.cond (.t 14)
        .skip
        (.exit 0)))
      (.seq (.block 1
        (.seq (.drs [⟨some 17, none, .mv (.t 0)⟩, ⟨some 18, none, .mv (.t 5)⟩, ⟨some 19, none, .ia 1 (.t 17) (.t 18)⟩, ⟨some 20, none, .ld none (.t 19)⟩, ⟨some 21, none, .mv (.t 1)⟩, ⟨some 22, none, .mv (.t 5)⟩, ⟨some 23, none, .ia 1 (.t 21) (.t 22)⟩, ⟨some 24, none, .ld none (.t 23)⟩, ⟨some 25, none, .bin .neq 0 (.t 20) (.t 24)⟩])
        (.cond (.t 25)
          (.seq (.reg [⟨some 4, none, .mv (.k (.bool false))⟩])
          .ret)
          .skip)))
      (.reg [⟨some 15, none, .mv (.t 5)⟩, ⟨some 16, none, .bin .add 0 (.t 15) (.k (.int .i64 1))⟩, ⟨some 5, none, .mv (.t 16)⟩]))))))
  (.seq (.reg [⟨some 4, none, .mv (.k (.bool true))⟩])
  .ret))))
set_option maxRecDepth 100000 in
theorem er41 : (Try.f41.body.bind (erC Try.prog cfg 26)) = some c41 := by kernel_rfl
theorem in41 {args : List AV} {σ : St} {Q : AV → St → Prop} (hlen : args.length ≤ 26) (h : σ.Wf → (∀ i, i < args.length → Hab (args.getD i .undef)) → SWP Try.prog σ.next c41 (retQ σ.next [.t 4] Q) (fun i => args.getD i .undef) σ) : TQ Try.prog 41 args σ Q := by
  obtain ⟨k, hb, hk⟩ := Option.bind_eq_some_iff.1 er41
  exact TQ_of (fn := Try.f41) Try.func41 (by kernel_rfl) hb (erC_is mixed hk) (by kernel_rfl) hlen h

end Go.Proofs.Ytdmbgnppbchgcaa.Av

namespace Go.Av

section
variable {P : Program} {n0 : Nat} {Q : Exit → Fr → St → Prop} {F : Fr} {σ : St}

/-- What the body of a counting loop is to bring about. 'id': the loop's end, 'id2': the next round. -/
def roundQ (id id2 ti tx i : Nat) (J : Nat → Fr → St → Prop) (Q : Exit → Fr → St → Prop) : Exit → Fr → St → Prop
  | .normal, F, σ => F ti = .int .i64 i ∧ J (i + 1) (upd (upd F tx (.int .i64 ((i + 1 : Nat) : Int))) ti (.int .i64 ((i + 1 : Nat) : Int))) σ
  | .exit k, F, σ => if k = id2 then F ti = .int .i64 i ∧ J (i + 1) (upd (upd F tx (.int .i64 ((i + 1 : Nat) : Int))) ti (.int .i64 ((i + 1 : Nat) : Int))) σ else if k = id then Q .normal F σ else Q (.exit k) F σ
  | ex, F, σ => Q ex F σ

theorem wrap_succ {i : Nat} (h : i < most) : IntKind.i64.wrap (i + 1) = ((i + 1 : Nat) : Int) := by
  rw [IntWalk.i64_in _ (by simp only [most] at h; omega)]; rfl

theorem SWP.range {id id2 t ti tn tx N : Nat} {body : C} (J : Nat → Fr → St → Prop) (hN : N ≤ most) (h0 : J 0 F σ) (hF : ∀ i F σ, J i F σ → F ti = .int .i64 i ∧ F tn = .int .i64 N)
    (hstep : ∀ i F σ, i < N → J i F σ → SWP P n0 body (roundQ id id2 ti tx i J Q) (upd F t (.bool true)) σ)
    (hend : ∀ F σ, J N F σ → Q .normal (upd F t (.bool false)) σ) :
    SWP P n0 (.block id (.loop (.seq (.reg [⟨some t, none, .bin .lss 0 (.t ti) (.t tn)⟩]) (.seq (.cond (.t t) .skip (.exit id))
      (.seq (.block id2 body) (.reg [⟨some tx, none, .bin .add 0 (.t ti) (.k (.int .i64 1))⟩, ⟨some ti, none, .mv (.t tx)⟩])))))) Q F σ := by
  refine .block (.loop (fun m F σ => ∃ i, i ≤ N ∧ m = N - i ∧ J i F σ) N ⟨0, Nat.zero_le _, by simp, h0⟩ ?_)
  rintro m F σ ⟨i, hi, rfl, hJ⟩
  obtain ⟨hi1, hi2⟩ := hF i F σ hJ
  refine .seq (.reg ?_)
  simp only [aops, aopq, aop, ev, hi1, hi2, abin, put, true_and]
  refine .seq (.cond (t := decide ((i : Int) < N)) (by simp [ev, upd]) (fun ht => .skip ?_) (fun ht => .exit ?_))
  · have hlt : i < N := by simpa using ht
    rw [show decide ((i : Int) < N) = true from ht]
    refine .seq (.block ?_)
    refine (hstep i F σ hlt hJ).mono fun ex F' σ' hq => ?_
    have key : (F' ti = .int .i64 i ∧ J (i + 1) (upd (upd F' tx (.int .i64 ((i + 1 : Nat) : Int))) ti (.int .i64 ((i + 1 : Nat) : Int))) σ') → SWP P n0 (.reg [⟨some tx, none, .bin .add 0 (.t ti) (.k (.int .i64 1))⟩, ⟨some ti, none, .mv (.t tx)⟩])
        (thenQ (fun F σ => ∃ m, m < N - i ∧ ∃ i, i ≤ N ∧ m = N - i ∧ J i F σ) (blockQ id Q)) F' σ' := by
      rintro ⟨h1, h2⟩
      refine .reg ?_
      simp only [aops, aopq, aop, ev, h1, abin, put, true_and]
      refine ⟨N - (i + 1), by omega, i + 1, by omega, rfl, ?_⟩
      rw [wrap_succ (by omega)]
      have e : upd F' tx (.int .i64 ((i + 1 : Nat) : Int)) tx = .int .i64 ((i + 1 : Nat) : Int) := by simp [upd]
      rw [e]; exact h2
    cases ex with
    | normal => exact key hq
    | exit k =>
      simp only [roundQ] at hq
      simp only [blockQ]
      split
      · rename_i h; rw [if_pos h] at hq; exact key hq
      · rename_i h; rw [if_neg h] at hq
        split at hq
        · rename_i h'; subst h'
          show blockQ k Q (.exit k) F' σ'
          simp only [blockQ, if_true]; exact hq
        · rename_i h'
          show blockQ id Q (.exit k) F' σ'
          simp only [blockQ]; rw [if_neg h']; exact hq
    | _ => exact hq
  · have : i = N := by have := of_decide_eq_false ht; omega
    subst this
    rw [show decide ((i : Int) < i) = false from ht]
    show blockQ id Q (.exit id) _ _
    simp only [blockQ, if_true]
    exact hend F σ hJ

/-- The same for a loop whose head is anything that turns out as 'i < N'. -/
theorem SWP.count {id id2 t ti ta tx N : Nat} {hd body : C} (J : Nat → Fr → St → Prop) (hN : N ≤ most) (h0 : J 0 F σ)
    (hhd : ∀ i F σ, i ≤ N → J i F σ → SWP P n0 hd (fun ex F' σ' => ex = .normal ∧ F' t = .bool (decide (i < N)) ∧ J i F' σ') F σ)
    (hstep : ∀ i F σ, i < N → J i F σ → F t = .bool true → SWP P n0 body (fun ex F' σ' => match ex with
      | .normal => F' ti = .int .i64 i ∧ J (i + 1) (upd (upd (upd F' ta (.int .i64 i)) tx (.int .i64 ((i + 1 : Nat) : Int))) ti (.int .i64 ((i + 1 : Nat) : Int))) σ'
      | .exit k => if k = id2 then F' ti = .int .i64 i ∧ J (i + 1) (upd (upd (upd F' ta (.int .i64 i)) tx (.int .i64 ((i + 1 : Nat) : Int))) ti (.int .i64 ((i + 1 : Nat) : Int))) σ' else if k = id then Q .normal F' σ' else Q (.exit k) F' σ'
      | ex => Q ex F' σ') F σ)
    (hend : ∀ F σ, J N F σ → F t = .bool false → Q .normal F σ) :
    SWP P n0 (.block id (.loop (.seq (.seq hd (.cond (.t t) .skip (.exit id)))
      (.seq (.block id2 body) (.reg [⟨some ta, none, .mv (.t ti)⟩, ⟨some tx, none, .bin .add 0 (.t ta) (.k (.int .i64 1))⟩, ⟨some ti, none, .mv (.t tx)⟩]))))) Q F σ := by
  refine .block (.loop (fun m F σ => ∃ i, i ≤ N ∧ m = N - i ∧ J i F σ) N ⟨0, Nat.zero_le _, by simp, h0⟩ ?_)
  rintro m F σ ⟨i, hi, rfl, hJ⟩
  refine .seq (.seq ((hhd i F σ hi hJ).mono ?_))
  rintro ex F1 σ1 ⟨rfl, ht1, hJ1⟩
  refine .cond (t := decide (i < N)) ht1 (fun ht => .skip ?_) (fun ht => .exit ?_)
  · have hlt : i < N := by simpa using ht
    refine .seq (.block ?_)
    refine (hstep i F1 σ1 hlt hJ1 (by rw [ht1, ht])).mono fun ex F' σ' hq => ?_
    have key : (F' ti = .int .i64 i ∧ J (i + 1) (upd (upd (upd F' ta (.int .i64 i)) tx (.int .i64 ((i + 1 : Nat) : Int))) ti (.int .i64 ((i + 1 : Nat) : Int))) σ') → SWP P n0 (.reg [⟨some ta, none, .mv (.t ti)⟩, ⟨some tx, none, .bin .add 0 (.t ta) (.k (.int .i64 1))⟩, ⟨some ti, none, .mv (.t tx)⟩])
        (thenQ (fun F σ => ∃ m, m < N - i ∧ ∃ i, i ≤ N ∧ m = N - i ∧ J i F σ) (blockQ id Q)) F' σ' := by
      rintro ⟨h1, h2⟩
      have e0 : upd F' ta (.int .i64 i) ta = .int .i64 i := by simp [upd]
      have e : upd (upd F' ta (.int .i64 i)) tx (.int .i64 ((i + 1 : Nat) : Int)) tx = .int .i64 ((i + 1 : Nat) : Int) := by simp [upd]
      refine .reg ?_
      simp only [aops, aopq, aop, ev, h1, abin, put, true_and, e0, wrap_succ (show i < most by omega)]
      refine ⟨N - (i + 1), by omega, i + 1, by omega, rfl, ?_⟩
      rw [e]; exact h2
    cases ex with
    | normal => exact key hq
    | exit k =>
      simp only at hq
      simp only [blockQ]
      split
      · rename_i h; rw [if_pos h] at hq; exact key hq
      · rename_i h; rw [if_neg h] at hq
        split at hq
        · rename_i h'; subst h'
          show blockQ k Q (.exit k) F' σ'
          simp only [blockQ, if_true]; exact hq
        · rename_i h'
          show blockQ id Q (.exit k) F' σ'
          simp only [blockQ]; rw [if_neg h']; exact hq
    | _ => exact hq
  · have hn : i = N := by have := of_decide_eq_false ht; omega
    subst hn
    show blockQ id Q (.exit id) _ _
    simp only [blockQ, if_true]
    exact hend F1 σ1 hJ1 (by rw [ht1, ht])
end
end Go.Av
