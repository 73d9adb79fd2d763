/- Facts on the program's types. Written by wip/gen/types.py. -/
import Derived.Test.YtmbmebfeoejlnaaA23
import Derived.Test.YtmbmebfeoejlnaaChecked
import Derived.KernelRfl
namespace Go.Proofs.Ytmbmebfeoejlnaa.Ab
set_option linter.unusedVariables false
set_option linter.unusedSimpArgs false
open Go.RowKit
@[simp] theorem y2sz : tsz Try.prog 2 = 1 := by kernel_rfl
@[simp] theorem y2by : tby Try.prog 2 = 8 := by kernel_rfl
@[simp] theorem y2kn : tkn Try.prog 2 = true := by kernel_rfl
@[simp] theorem y2ag : tagg Try.prog 2 = false := by kernel_rfl
@[simp] theorem y2in : tint Try.prog 2 = some .i64 := by kernel_rfl
@[simp] theorem y2st : tstr Try.prog 2 = false := by kernel_rfl
@[simp] theorem y2el : tel Try.prog 2 = none := by kernel_rfl
@[simp] theorem y2ze : tzero Try.prog 2 = some [.lit (.int .i64 0)] := by kernel_rfl
@[simp] theorem y3sz : tsz Try.prog 3 = 1 := by kernel_rfl
@[simp] theorem y3by : tby Try.prog 3 = 8 := by kernel_rfl
@[simp] theorem y3kn : tkn Try.prog 3 = true := by kernel_rfl
@[simp] theorem y3ag : tagg Try.prog 3 = false := by kernel_rfl
@[simp] theorem y3in : tint Try.prog 3 = some .i64 := by kernel_rfl
@[simp] theorem y3st : tstr Try.prog 3 = false := by kernel_rfl
@[simp] theorem y3el : tel Try.prog 3 = none := by kernel_rfl
@[simp] theorem y3ze : tzero Try.prog 3 = some [.lit (.int .i64 0)] := by kernel_rfl
@[simp] theorem y4sz : tsz Try.prog 4 = 1 := by kernel_rfl
@[simp] theorem y4by : tby Try.prog 4 = 1 := by kernel_rfl
@[simp] theorem y4kn : tkn Try.prog 4 = true := by kernel_rfl
@[simp] theorem y4ag : tagg Try.prog 4 = false := by kernel_rfl
@[simp] theorem y4in : tint Try.prog 4 = none := by kernel_rfl
@[simp] theorem y4st : tstr Try.prog 4 = false := by kernel_rfl
@[simp] theorem y4el : tel Try.prog 4 = none := by kernel_rfl
@[simp] theorem y4ze : tzero Try.prog 4 = some [.lit (.bool false)] := by kernel_rfl
@[simp] theorem y5sz : tsz Try.prog 5 = 1 := by kernel_rfl
@[simp] theorem y5by : tby Try.prog 5 = 1 := by kernel_rfl
@[simp] theorem y5kn : tkn Try.prog 5 = true := by kernel_rfl
@[simp] theorem y5ag : tagg Try.prog 5 = false := by kernel_rfl
@[simp] theorem y5in : tint Try.prog 5 = some .u8 := by kernel_rfl
@[simp] theorem y5st : tstr Try.prog 5 = false := by kernel_rfl
@[simp] theorem y5el : tel Try.prog 5 = none := by kernel_rfl
@[simp] theorem y5ze : tzero Try.prog 5 = some [.lit (.int .u8 0)] := by kernel_rfl
@[simp] theorem y6sz : tsz Try.prog 6 = 1 := by kernel_rfl
@[simp] theorem y6by : tby Try.prog 6 = 1 := by kernel_rfl
@[simp] theorem y6kn : tkn Try.prog 6 = true := by kernel_rfl
@[simp] theorem y6ag : tagg Try.prog 6 = false := by kernel_rfl
@[simp] theorem y6in : tint Try.prog 6 = some .u8 := by kernel_rfl
@[simp] theorem y6st : tstr Try.prog 6 = false := by kernel_rfl
@[simp] theorem y6el : tel Try.prog 6 = none := by kernel_rfl
@[simp] theorem y6ze : tzero Try.prog 6 = some [.lit (.int .u8 0)] := by kernel_rfl
@[simp] theorem y7sz : tsz Try.prog 7 = 4 := by kernel_rfl
@[simp] theorem y7by : tby Try.prog 7 = 24 := by kernel_rfl
@[simp] theorem y7kn : tkn Try.prog 7 = true := by kernel_rfl
@[simp] theorem y7ag : tagg Try.prog 7 = true := by kernel_rfl
@[simp] theorem y7in : tint Try.prog 7 = none := by kernel_rfl
@[simp] theorem y7st : tstr Try.prog 7 = false := by kernel_rfl
@[simp] theorem y7el : tel Try.prog 7 = none := by kernel_rfl
@[simp] theorem y7ze : tzero Try.prog 7 = some [.lit (.int .i64 0), .lit (.int .i64 0), .lit (.bool false), .lit (.int .u8 0)] := by kernel_rfl
@[simp] theorem y7ok : tplOk Try.prog 7 = true := by kernel_rfl
@[simp] theorem y7f0 : tfld Try.prog 7 0 = some (0, 2) := by kernel_rfl
@[simp] theorem y7p0 : tplace Try.prog 7 0 = some (0, 1) := by kernel_rfl
@[simp] theorem y7f1 : tfld Try.prog 7 1 = some (1, 3) := by kernel_rfl
@[simp] theorem y7p1 : tplace Try.prog 7 1 = some (1, 1) := by kernel_rfl
@[simp] theorem y7f2 : tfld Try.prog 7 2 = some (2, 4) := by kernel_rfl
@[simp] theorem y7p2 : tplace Try.prog 7 2 = some (2, 1) := by kernel_rfl
@[simp] theorem y7f3 : tfld Try.prog 7 3 = some (3, 6) := by kernel_rfl
@[simp] theorem y7p3 : tplace Try.prog 7 3 = some (3, 1) := by kernel_rfl
@[simp] theorem y8sz : tsz Try.prog 8 = 4 := by kernel_rfl
@[simp] theorem y8by : tby Try.prog 8 = 24 := by kernel_rfl
@[simp] theorem y8kn : tkn Try.prog 8 = true := by kernel_rfl
@[simp] theorem y8ag : tagg Try.prog 8 = true := by kernel_rfl
@[simp] theorem y8in : tint Try.prog 8 = none := by kernel_rfl
@[simp] theorem y8st : tstr Try.prog 8 = false := by kernel_rfl
@[simp] theorem y8el : tel Try.prog 8 = none := by kernel_rfl
@[simp] theorem y8ze : tzero Try.prog 8 = some [.lit (.int .i64 0), .lit (.int .i64 0), .lit (.bool false), .lit (.int .u8 0)] := by kernel_rfl
@[simp] theorem y8ok : tplOk Try.prog 8 = true := by kernel_rfl
@[simp] theorem y8f0 : tfld Try.prog 8 0 = some (0, 2) := by kernel_rfl
@[simp] theorem y8p0 : tplace Try.prog 8 0 = some (0, 1) := by kernel_rfl
@[simp] theorem y8f1 : tfld Try.prog 8 1 = some (1, 3) := by kernel_rfl
@[simp] theorem y8p1 : tplace Try.prog 8 1 = some (1, 1) := by kernel_rfl
@[simp] theorem y8f2 : tfld Try.prog 8 2 = some (2, 4) := by kernel_rfl
@[simp] theorem y8p2 : tplace Try.prog 8 2 = some (2, 1) := by kernel_rfl
@[simp] theorem y8f3 : tfld Try.prog 8 3 = some (3, 6) := by kernel_rfl
@[simp] theorem y8p3 : tplace Try.prog 8 3 = some (3, 1) := by kernel_rfl
@[simp] theorem y9sz : tsz Try.prog 9 = 1 := by kernel_rfl
@[simp] theorem y9by : tby Try.prog 9 = 16 := by kernel_rfl
@[simp] theorem y9kn : tkn Try.prog 9 = true := by kernel_rfl
@[simp] theorem y9ag : tagg Try.prog 9 = false := by kernel_rfl
@[simp] theorem y9in : tint Try.prog 9 = none := by kernel_rfl
@[simp] theorem y9st : tstr Try.prog 9 = true := by kernel_rfl
@[simp] theorem y9el : tel Try.prog 9 = none := by kernel_rfl
@[simp] theorem y9ze : tzero Try.prog 9 = some [.lit (.string ByteArray.empty)] := by kernel_rfl
@[simp] theorem y10sz : tsz Try.prog 10 = 1 := by kernel_rfl
@[simp] theorem y10by : tby Try.prog 10 = 16 := by kernel_rfl
@[simp] theorem y10kn : tkn Try.prog 10 = true := by kernel_rfl
@[simp] theorem y10ag : tagg Try.prog 10 = false := by kernel_rfl
@[simp] theorem y10in : tint Try.prog 10 = none := by kernel_rfl
@[simp] theorem y10st : tstr Try.prog 10 = true := by kernel_rfl
@[simp] theorem y10el : tel Try.prog 10 = none := by kernel_rfl
@[simp] theorem y10ze : tzero Try.prog 10 = some [.lit (.string ByteArray.empty)] := by kernel_rfl
@[simp] theorem y11sz : tsz Try.prog 11 = 1 := by kernel_rfl
@[simp] theorem y11by : tby Try.prog 11 = 16 := by kernel_rfl
@[simp] theorem y11kn : tkn Try.prog 11 = true := by kernel_rfl
@[simp] theorem y11ag : tagg Try.prog 11 = false := by kernel_rfl
@[simp] theorem y11in : tint Try.prog 11 = none := by kernel_rfl
@[simp] theorem y11st : tstr Try.prog 11 = true := by kernel_rfl
@[simp] theorem y11el : tel Try.prog 11 = none := by kernel_rfl
@[simp] theorem y11ze : tzero Try.prog 11 = some [.lit (.string ByteArray.empty)] := by kernel_rfl
@[simp] theorem y12sz : tsz Try.prog 12 = 1 := by kernel_rfl
@[simp] theorem y12by : tby Try.prog 12 = 8 := by kernel_rfl
@[simp] theorem y12kn : tkn Try.prog 12 = true := by kernel_rfl
@[simp] theorem y12ag : tagg Try.prog 12 = false := by kernel_rfl
@[simp] theorem y12in : tint Try.prog 12 = some .u64 := by kernel_rfl
@[simp] theorem y12st : tstr Try.prog 12 = false := by kernel_rfl
@[simp] theorem y12el : tel Try.prog 12 = none := by kernel_rfl
@[simp] theorem y12ze : tzero Try.prog 12 = some [.lit (.int .u64 0)] := by kernel_rfl
@[simp] theorem y13sz : tsz Try.prog 13 = 2 := by kernel_rfl
@[simp] theorem y13by : tby Try.prog 13 = 24 := by kernel_rfl
@[simp] theorem y13kn : tkn Try.prog 13 = true := by kernel_rfl
@[simp] theorem y13ag : tagg Try.prog 13 = true := by kernel_rfl
@[simp] theorem y13in : tint Try.prog 13 = none := by kernel_rfl
@[simp] theorem y13st : tstr Try.prog 13 = false := by kernel_rfl
@[simp] theorem y13el : tel Try.prog 13 = none := by kernel_rfl
@[simp] theorem y13ze : tzero Try.prog 13 = some [.lit (.string ByteArray.empty), .lit (.int .u64 0)] := by kernel_rfl
@[simp] theorem y13ok : tplOk Try.prog 13 = true := by kernel_rfl
@[simp] theorem y13f0 : tfld Try.prog 13 0 = some (0, 9) := by kernel_rfl
@[simp] theorem y13p0 : tplace Try.prog 13 0 = some (0, 1) := by kernel_rfl
@[simp] theorem y13f1 : tfld Try.prog 13 1 = some (1, 12) := by kernel_rfl
@[simp] theorem y13p1 : tplace Try.prog 13 1 = some (1, 1) := by kernel_rfl
@[simp] theorem y14sz : tsz Try.prog 14 = 2 := by kernel_rfl
@[simp] theorem y14by : tby Try.prog 14 = 24 := by kernel_rfl
@[simp] theorem y14kn : tkn Try.prog 14 = true := by kernel_rfl
@[simp] theorem y14ag : tagg Try.prog 14 = true := by kernel_rfl
@[simp] theorem y14in : tint Try.prog 14 = none := by kernel_rfl
@[simp] theorem y14st : tstr Try.prog 14 = false := by kernel_rfl
@[simp] theorem y14el : tel Try.prog 14 = none := by kernel_rfl
@[simp] theorem y14ze : tzero Try.prog 14 = some [.lit (.string ByteArray.empty), .lit (.int .u64 0)] := by kernel_rfl
@[simp] theorem y14ok : tplOk Try.prog 14 = true := by kernel_rfl
@[simp] theorem y14f0 : tfld Try.prog 14 0 = some (0, 9) := by kernel_rfl
@[simp] theorem y14p0 : tplace Try.prog 14 0 = some (0, 1) := by kernel_rfl
@[simp] theorem y14f1 : tfld Try.prog 14 1 = some (1, 12) := by kernel_rfl
@[simp] theorem y14p1 : tplace Try.prog 14 1 = some (1, 1) := by kernel_rfl
@[simp] theorem y21sz : tsz Try.prog 21 = 1 := by kernel_rfl
@[simp] theorem y21by : tby Try.prog 21 = 4 := by kernel_rfl
@[simp] theorem y21kn : tkn Try.prog 21 = true := by kernel_rfl
@[simp] theorem y21ag : tagg Try.prog 21 = false := by kernel_rfl
@[simp] theorem y21in : tint Try.prog 21 = some .i32 := by kernel_rfl
@[simp] theorem y21st : tstr Try.prog 21 = false := by kernel_rfl
@[simp] theorem y21el : tel Try.prog 21 = none := by kernel_rfl
@[simp] theorem y21ze : tzero Try.prog 21 = some [.lit (.int .i32 0)] := by kernel_rfl
@[simp] theorem y22sz : tsz Try.prog 22 = 5 := by kernel_rfl
@[simp] theorem y22by : tby Try.prog 22 = 40 := by kernel_rfl
@[simp] theorem y22kn : tkn Try.prog 22 = true := by kernel_rfl
@[simp] theorem y22ag : tagg Try.prog 22 = true := by kernel_rfl
@[simp] theorem y22in : tint Try.prog 22 = none := by kernel_rfl
@[simp] theorem y22st : tstr Try.prog 22 = false := by kernel_rfl
@[simp] theorem y22el : tel Try.prog 22 = none := by kernel_rfl
@[simp] theorem y22ze : tzero Try.prog 22 = some [.lit (.int .i64 0), .lit (.int .i64 0), .lit (.int .i64 0), .lit (.int .i64 0), .lit (.int .i64 0)] := by kernel_rfl
@[simp] theorem y22ok : tplOk Try.prog 22 = true := by kernel_rfl
@[simp] theorem y22f0 : tfld Try.prog 22 0 = some (0, 3) := by kernel_rfl
@[simp] theorem y22p0 : tplace Try.prog 22 0 = some (0, 1) := by kernel_rfl
@[simp] theorem y22f1 : tfld Try.prog 22 1 = some (1, 3) := by kernel_rfl
@[simp] theorem y22p1 : tplace Try.prog 22 1 = some (1, 1) := by kernel_rfl
@[simp] theorem y22f2 : tfld Try.prog 22 2 = some (2, 3) := by kernel_rfl
@[simp] theorem y22p2 : tplace Try.prog 22 2 = some (2, 1) := by kernel_rfl
@[simp] theorem y22f3 : tfld Try.prog 22 3 = some (3, 3) := by kernel_rfl
@[simp] theorem y22p3 : tplace Try.prog 22 3 = some (3, 1) := by kernel_rfl
@[simp] theorem y22f4 : tfld Try.prog 22 4 = some (4, 3) := by kernel_rfl
@[simp] theorem y22p4 : tplace Try.prog 22 4 = some (4, 1) := by kernel_rfl
@[simp] theorem y23sz : tsz Try.prog 23 = 5 := by kernel_rfl
@[simp] theorem y23by : tby Try.prog 23 = 40 := by kernel_rfl
@[simp] theorem y23kn : tkn Try.prog 23 = true := by kernel_rfl
@[simp] theorem y23ag : tagg Try.prog 23 = true := by kernel_rfl
@[simp] theorem y23in : tint Try.prog 23 = none := by kernel_rfl
@[simp] theorem y23st : tstr Try.prog 23 = false := by kernel_rfl
@[simp] theorem y23el : tel Try.prog 23 = none := by kernel_rfl
@[simp] theorem y23ze : tzero Try.prog 23 = some [.lit (.int .i64 0), .lit (.int .i64 0), .lit (.int .i64 0), .lit (.int .i64 0), .lit (.int .i64 0)] := by kernel_rfl
@[simp] theorem y23ok : tplOk Try.prog 23 = true := by kernel_rfl
@[simp] theorem y23f0 : tfld Try.prog 23 0 = some (0, 3) := by kernel_rfl
@[simp] theorem y23p0 : tplace Try.prog 23 0 = some (0, 1) := by kernel_rfl
@[simp] theorem y23f1 : tfld Try.prog 23 1 = some (1, 3) := by kernel_rfl
@[simp] theorem y23p1 : tplace Try.prog 23 1 = some (1, 1) := by kernel_rfl
@[simp] theorem y23f2 : tfld Try.prog 23 2 = some (2, 3) := by kernel_rfl
@[simp] theorem y23p2 : tplace Try.prog 23 2 = some (2, 1) := by kernel_rfl
@[simp] theorem y23f3 : tfld Try.prog 23 3 = some (3, 3) := by kernel_rfl
@[simp] theorem y23p3 : tplace Try.prog 23 3 = some (3, 1) := by kernel_rfl
@[simp] theorem y23f4 : tfld Try.prog 23 4 = some (4, 3) := by kernel_rfl
@[simp] theorem y23p4 : tplace Try.prog 23 4 = some (4, 1) := by kernel_rfl
@[simp] theorem y24sz : tsz Try.prog 24 = 1 := by kernel_rfl
@[simp] theorem y24by : tby Try.prog 24 = 24 := by kernel_rfl
@[simp] theorem y24kn : tkn Try.prog 24 = true := by kernel_rfl
@[simp] theorem y24ag : tagg Try.prog 24 = false := by kernel_rfl
@[simp] theorem y24in : tint Try.prog 24 = none := by kernel_rfl
@[simp] theorem y24st : tstr Try.prog 24 = false := by kernel_rfl
@[simp] theorem y24el : tel Try.prog 24 = some 34 := by kernel_rfl
@[simp] theorem y24ze : tzero Try.prog 24 = some [.sl false 34 4 []] := by kernel_rfl
@[simp] theorem y25sz : tsz Try.prog 25 = 1 := by kernel_rfl
@[simp] theorem y25by : tby Try.prog 25 = 24 := by kernel_rfl
@[simp] theorem y25kn : tkn Try.prog 25 = true := by kernel_rfl
@[simp] theorem y25ag : tagg Try.prog 25 = false := by kernel_rfl
@[simp] theorem y25in : tint Try.prog 25 = none := by kernel_rfl
@[simp] theorem y25st : tstr Try.prog 25 = false := by kernel_rfl
@[simp] theorem y25el : tel Try.prog 25 = some 30 := by kernel_rfl
@[simp] theorem y25ze : tzero Try.prog 25 = some [.sl false 30 4 []] := by kernel_rfl
@[simp] theorem y27sz : tsz Try.prog 27 = 1 := by kernel_rfl
@[simp] theorem y27by : tby Try.prog 27 = 24 := by kernel_rfl
@[simp] theorem y27kn : tkn Try.prog 27 = true := by kernel_rfl
@[simp] theorem y27ag : tagg Try.prog 27 = false := by kernel_rfl
@[simp] theorem y27in : tint Try.prog 27 = none := by kernel_rfl
@[simp] theorem y27st : tstr Try.prog 27 = false := by kernel_rfl
@[simp] theorem y27el : tel Try.prog 27 = some 3 := by kernel_rfl
@[simp] theorem y27ze : tzero Try.prog 27 = some [.sl false 3 1 []] := by kernel_rfl
@[simp] theorem y28sz : tsz Try.prog 28 = 1 := by kernel_rfl
@[simp] theorem y28by : tby Try.prog 28 = 24 := by kernel_rfl
@[simp] theorem y28kn : tkn Try.prog 28 = true := by kernel_rfl
@[simp] theorem y28ag : tagg Try.prog 28 = false := by kernel_rfl
@[simp] theorem y28in : tint Try.prog 28 = none := by kernel_rfl
@[simp] theorem y28st : tstr Try.prog 28 = false := by kernel_rfl
@[simp] theorem y28el : tel Try.prog 28 = some 79 := by kernel_rfl
@[simp] theorem y28ze : tzero Try.prog 28 = some [.sl false 79 1 []] := by kernel_rfl
@[simp] theorem y29sz : tsz Try.prog 29 = 4 := by kernel_rfl
@[simp] theorem y29by : tby Try.prog 29 = 80 := by kernel_rfl
@[simp] theorem y29kn : tkn Try.prog 29 = true := by kernel_rfl
@[simp] theorem y29ag : tagg Try.prog 29 = true := by kernel_rfl
@[simp] theorem y29in : tint Try.prog 29 = none := by kernel_rfl
@[simp] theorem y29st : tstr Try.prog 29 = false := by kernel_rfl
@[simp] theorem y29el : tel Try.prog 29 = none := by kernel_rfl
@[simp] theorem y29ze : tzero Try.prog 29 = some [.sl false 3 1 [], .lit (.int .i64 0), .sl false 79 1 [], .sl false 79 1 []] := by kernel_rfl
@[simp] theorem y29ok : tplOk Try.prog 29 = true := by kernel_rfl
@[simp] theorem y29f0 : tfld Try.prog 29 0 = some (0, 27) := by kernel_rfl
@[simp] theorem y29p0 : tplace Try.prog 29 0 = some (0, 1) := by kernel_rfl
@[simp] theorem y29f1 : tfld Try.prog 29 1 = some (1, 3) := by kernel_rfl
@[simp] theorem y29p1 : tplace Try.prog 29 1 = some (1, 1) := by kernel_rfl
@[simp] theorem y29f2 : tfld Try.prog 29 2 = some (2, 28) := by kernel_rfl
@[simp] theorem y29p2 : tplace Try.prog 29 2 = some (2, 1) := by kernel_rfl
@[simp] theorem y29f3 : tfld Try.prog 29 3 = some (3, 28) := by kernel_rfl
@[simp] theorem y29p3 : tplace Try.prog 29 3 = some (3, 1) := by kernel_rfl
@[simp] theorem y30sz : tsz Try.prog 30 = 4 := by kernel_rfl
@[simp] theorem y30by : tby Try.prog 30 = 80 := by kernel_rfl
@[simp] theorem y30kn : tkn Try.prog 30 = true := by kernel_rfl
@[simp] theorem y30ag : tagg Try.prog 30 = true := by kernel_rfl
@[simp] theorem y30in : tint Try.prog 30 = none := by kernel_rfl
@[simp] theorem y30st : tstr Try.prog 30 = false := by kernel_rfl
@[simp] theorem y30el : tel Try.prog 30 = none := by kernel_rfl
@[simp] theorem y30ze : tzero Try.prog 30 = some [.sl false 3 1 [], .lit (.int .i64 0), .sl false 79 1 [], .sl false 79 1 []] := by kernel_rfl
@[simp] theorem y30ok : tplOk Try.prog 30 = true := by kernel_rfl
@[simp] theorem y30f0 : tfld Try.prog 30 0 = some (0, 27) := by kernel_rfl
@[simp] theorem y30p0 : tplace Try.prog 30 0 = some (0, 1) := by kernel_rfl
@[simp] theorem y30f1 : tfld Try.prog 30 1 = some (1, 3) := by kernel_rfl
@[simp] theorem y30p1 : tplace Try.prog 30 1 = some (1, 1) := by kernel_rfl
@[simp] theorem y30f2 : tfld Try.prog 30 2 = some (2, 28) := by kernel_rfl
@[simp] theorem y30p2 : tplace Try.prog 30 2 = some (2, 1) := by kernel_rfl
@[simp] theorem y30f3 : tfld Try.prog 30 3 = some (3, 28) := by kernel_rfl
@[simp] theorem y30p3 : tplace Try.prog 30 3 = some (3, 1) := by kernel_rfl
@[simp] theorem y31sz : tsz Try.prog 31 = 2 := by kernel_rfl
@[simp] theorem y31by : tby Try.prog 31 = 48 := by kernel_rfl
@[simp] theorem y31kn : tkn Try.prog 31 = true := by kernel_rfl
@[simp] theorem y31ag : tagg Try.prog 31 = true := by kernel_rfl
@[simp] theorem y31in : tint Try.prog 31 = none := by kernel_rfl
@[simp] theorem y31st : tstr Try.prog 31 = false := by kernel_rfl
@[simp] theorem y31el : tel Try.prog 31 = none := by kernel_rfl
@[simp] theorem y31ze : tzero Try.prog 31 = some [.sl false 79 1 [], .sl false 79 1 []] := by kernel_rfl
@[simp] theorem y31ok : tplOk Try.prog 31 = true := by kernel_rfl
@[simp] theorem y31f0 : tfld Try.prog 31 0 = some (0, 28) := by kernel_rfl
@[simp] theorem y31p0 : tplace Try.prog 31 0 = some (0, 1) := by kernel_rfl
@[simp] theorem y31f1 : tfld Try.prog 31 1 = some (1, 28) := by kernel_rfl
@[simp] theorem y31p1 : tplace Try.prog 31 1 = some (1, 1) := by kernel_rfl
@[simp] theorem y32sz : tsz Try.prog 32 = 2 := by kernel_rfl
@[simp] theorem y32by : tby Try.prog 32 = 48 := by kernel_rfl
@[simp] theorem y32kn : tkn Try.prog 32 = true := by kernel_rfl
@[simp] theorem y32ag : tagg Try.prog 32 = true := by kernel_rfl
@[simp] theorem y32in : tint Try.prog 32 = none := by kernel_rfl
@[simp] theorem y32st : tstr Try.prog 32 = false := by kernel_rfl
@[simp] theorem y32el : tel Try.prog 32 = none := by kernel_rfl
@[simp] theorem y32ze : tzero Try.prog 32 = some [.sl false 79 1 [], .sl false 79 1 []] := by kernel_rfl
@[simp] theorem y32ok : tplOk Try.prog 32 = true := by kernel_rfl
@[simp] theorem y32f0 : tfld Try.prog 32 0 = some (0, 28) := by kernel_rfl
@[simp] theorem y32p0 : tplace Try.prog 32 0 = some (0, 1) := by kernel_rfl
@[simp] theorem y32f1 : tfld Try.prog 32 1 = some (1, 28) := by kernel_rfl
@[simp] theorem y32p1 : tplace Try.prog 32 1 = some (1, 1) := by kernel_rfl
@[simp] theorem y33sz : tsz Try.prog 33 = 4 := by kernel_rfl
@[simp] theorem y33by : tby Try.prog 33 = 80 := by kernel_rfl
@[simp] theorem y33kn : tkn Try.prog 33 = true := by kernel_rfl
@[simp] theorem y33ag : tagg Try.prog 33 = true := by kernel_rfl
@[simp] theorem y33in : tint Try.prog 33 = none := by kernel_rfl
@[simp] theorem y33st : tstr Try.prog 33 = false := by kernel_rfl
@[simp] theorem y33el : tel Try.prog 33 = none := by kernel_rfl
@[simp] theorem y33ze : tzero Try.prog 33 = some [.sl false 3 1 [], .lit (.int .i64 0), .sl false 79 1 [], .sl false 79 1 []] := by kernel_rfl
@[simp] theorem y33ok : tplOk Try.prog 33 = true := by kernel_rfl
@[simp] theorem y33f0 : tfld Try.prog 33 0 = some (0, 27) := by kernel_rfl
@[simp] theorem y33p0 : tplace Try.prog 33 0 = some (0, 1) := by kernel_rfl
@[simp] theorem y33f1 : tfld Try.prog 33 1 = some (1, 3) := by kernel_rfl
@[simp] theorem y33p1 : tplace Try.prog 33 1 = some (1, 1) := by kernel_rfl
@[simp] theorem y33f2 : tfld Try.prog 33 2 = some (2, 32) := by kernel_rfl
@[simp] theorem y33p2 : tplace Try.prog 33 2 = some (2, 2) := by kernel_rfl
@[simp] theorem y34sz : tsz Try.prog 34 = 4 := by kernel_rfl
@[simp] theorem y34by : tby Try.prog 34 = 80 := by kernel_rfl
@[simp] theorem y34kn : tkn Try.prog 34 = true := by kernel_rfl
@[simp] theorem y34ag : tagg Try.prog 34 = true := by kernel_rfl
@[simp] theorem y34in : tint Try.prog 34 = none := by kernel_rfl
@[simp] theorem y34st : tstr Try.prog 34 = false := by kernel_rfl
@[simp] theorem y34el : tel Try.prog 34 = none := by kernel_rfl
@[simp] theorem y34ze : tzero Try.prog 34 = some [.sl false 3 1 [], .lit (.int .i64 0), .sl false 79 1 [], .sl false 79 1 []] := by kernel_rfl
@[simp] theorem y34ok : tplOk Try.prog 34 = true := by kernel_rfl
@[simp] theorem y34f0 : tfld Try.prog 34 0 = some (0, 27) := by kernel_rfl
@[simp] theorem y34p0 : tplace Try.prog 34 0 = some (0, 1) := by kernel_rfl
@[simp] theorem y34f1 : tfld Try.prog 34 1 = some (1, 3) := by kernel_rfl
@[simp] theorem y34p1 : tplace Try.prog 34 1 = some (1, 1) := by kernel_rfl
@[simp] theorem y34f2 : tfld Try.prog 34 2 = some (2, 32) := by kernel_rfl
@[simp] theorem y34p2 : tplace Try.prog 34 2 = some (2, 2) := by kernel_rfl
@[simp] theorem y36sz : tsz Try.prog 36 = 1 := by kernel_rfl
@[simp] theorem y36by : tby Try.prog 36 = 8 := by kernel_rfl
@[simp] theorem y36kn : tkn Try.prog 36 = true := by kernel_rfl
@[simp] theorem y36ag : tagg Try.prog 36 = false := by kernel_rfl
@[simp] theorem y36in : tint Try.prog 36 = some .i64 := by kernel_rfl
@[simp] theorem y36st : tstr Try.prog 36 = false := by kernel_rfl
@[simp] theorem y36el : tel Try.prog 36 = none := by kernel_rfl
@[simp] theorem y36ze : tzero Try.prog 36 = some [.lit (.int .i64 0)] := by kernel_rfl
@[simp] theorem y39sz : tsz Try.prog 39 = 3 := by kernel_rfl
@[simp] theorem y39by : tby Try.prog 39 = 72 := by kernel_rfl
@[simp] theorem y39kn : tkn Try.prog 39 = true := by kernel_rfl
@[simp] theorem y39ag : tagg Try.prog 39 = true := by kernel_rfl
@[simp] theorem y39in : tint Try.prog 39 = none := by kernel_rfl
@[simp] theorem y39st : tstr Try.prog 39 = false := by kernel_rfl
@[simp] theorem y39el : tel Try.prog 39 = none := by kernel_rfl
@[simp] theorem y39ze : tzero Try.prog 39 = some [.sl false 3 1 [], .sl false 79 1 [], .sl false 79 1 []] := by kernel_rfl
@[simp] theorem y39ok : tplOk Try.prog 39 = true := by kernel_rfl
@[simp] theorem y39f0 : tfld Try.prog 39 0 = some (0, 27) := by kernel_rfl
@[simp] theorem y39p0 : tplace Try.prog 39 0 = some (0, 1) := by kernel_rfl
@[simp] theorem y39f1 : tfld Try.prog 39 1 = some (1, 32) := by kernel_rfl
@[simp] theorem y39p1 : tplace Try.prog 39 1 = some (1, 2) := by kernel_rfl
@[simp] theorem y40sz : tsz Try.prog 40 = 3 := by kernel_rfl
@[simp] theorem y40by : tby Try.prog 40 = 72 := by kernel_rfl
@[simp] theorem y40kn : tkn Try.prog 40 = true := by kernel_rfl
@[simp] theorem y40ag : tagg Try.prog 40 = true := by kernel_rfl
@[simp] theorem y40in : tint Try.prog 40 = none := by kernel_rfl
@[simp] theorem y40st : tstr Try.prog 40 = false := by kernel_rfl
@[simp] theorem y40el : tel Try.prog 40 = none := by kernel_rfl
@[simp] theorem y40ze : tzero Try.prog 40 = some [.sl false 3 1 [], .sl false 79 1 [], .sl false 79 1 []] := by kernel_rfl
@[simp] theorem y40ok : tplOk Try.prog 40 = true := by kernel_rfl
@[simp] theorem y40f0 : tfld Try.prog 40 0 = some (0, 27) := by kernel_rfl
@[simp] theorem y40p0 : tplace Try.prog 40 0 = some (0, 1) := by kernel_rfl
@[simp] theorem y40f1 : tfld Try.prog 40 1 = some (1, 32) := by kernel_rfl
@[simp] theorem y40p1 : tplace Try.prog 40 1 = some (1, 2) := by kernel_rfl
@[simp] theorem y43sz : tsz Try.prog 43 = 3 := by kernel_rfl
@[simp] theorem y43by : tby Try.prog 43 = 72 := by kernel_rfl
@[simp] theorem y43kn : tkn Try.prog 43 = true := by kernel_rfl
@[simp] theorem y43ag : tagg Try.prog 43 = true := by kernel_rfl
@[simp] theorem y43in : tint Try.prog 43 = none := by kernel_rfl
@[simp] theorem y43st : tstr Try.prog 43 = false := by kernel_rfl
@[simp] theorem y43el : tel Try.prog 43 = none := by kernel_rfl
@[simp] theorem y43ze : tzero Try.prog 43 = some [.sl false 3 1 [], .sl false 79 1 [], .sl false 79 1 []] := by kernel_rfl
@[simp] theorem y43ok : tplOk Try.prog 43 = true := by kernel_rfl
@[simp] theorem y43f0 : tfld Try.prog 43 0 = some (0, 27) := by kernel_rfl
@[simp] theorem y43p0 : tplace Try.prog 43 0 = some (0, 1) := by kernel_rfl
@[simp] theorem y43f1 : tfld Try.prog 43 1 = some (1, 28) := by kernel_rfl
@[simp] theorem y43p1 : tplace Try.prog 43 1 = some (1, 1) := by kernel_rfl
@[simp] theorem y43f2 : tfld Try.prog 43 2 = some (2, 28) := by kernel_rfl
@[simp] theorem y43p2 : tplace Try.prog 43 2 = some (2, 1) := by kernel_rfl
@[simp] theorem y44sz : tsz Try.prog 44 = 3 := by kernel_rfl
@[simp] theorem y44by : tby Try.prog 44 = 72 := by kernel_rfl
@[simp] theorem y44kn : tkn Try.prog 44 = true := by kernel_rfl
@[simp] theorem y44ag : tagg Try.prog 44 = true := by kernel_rfl
@[simp] theorem y44in : tint Try.prog 44 = none := by kernel_rfl
@[simp] theorem y44st : tstr Try.prog 44 = false := by kernel_rfl
@[simp] theorem y44el : tel Try.prog 44 = none := by kernel_rfl
@[simp] theorem y44ze : tzero Try.prog 44 = some [.sl false 3 1 [], .sl false 79 1 [], .sl false 79 1 []] := by kernel_rfl
@[simp] theorem y44ok : tplOk Try.prog 44 = true := by kernel_rfl
@[simp] theorem y44f0 : tfld Try.prog 44 0 = some (0, 27) := by kernel_rfl
@[simp] theorem y44p0 : tplace Try.prog 44 0 = some (0, 1) := by kernel_rfl
@[simp] theorem y44f1 : tfld Try.prog 44 1 = some (1, 28) := by kernel_rfl
@[simp] theorem y44p1 : tplace Try.prog 44 1 = some (1, 1) := by kernel_rfl
@[simp] theorem y44f2 : tfld Try.prog 44 2 = some (2, 28) := by kernel_rfl
@[simp] theorem y44p2 : tplace Try.prog 44 2 = some (2, 1) := by kernel_rfl
@[simp] theorem y51sz : tsz Try.prog 51 = 1 := by kernel_rfl
@[simp] theorem y51by : tby Try.prog 51 = 24 := by kernel_rfl
@[simp] theorem y51kn : tkn Try.prog 51 = true := by kernel_rfl
@[simp] theorem y51ag : tagg Try.prog 51 = false := by kernel_rfl
@[simp] theorem y51in : tint Try.prog 51 = none := by kernel_rfl
@[simp] theorem y51st : tstr Try.prog 51 = false := by kernel_rfl
@[simp] theorem y51el : tel Try.prog 51 = some 81 := by kernel_rfl
@[simp] theorem y51ze : tzero Try.prog 51 = some [.sl false 81 1 []] := by kernel_rfl
@[simp] theorem y52sz : tsz Try.prog 52 = 3 := by kernel_rfl
@[simp] theorem y52by : tby Try.prog 52 = 40 := by kernel_rfl
@[simp] theorem y52kn : tkn Try.prog 52 = true := by kernel_rfl
@[simp] theorem y52ag : tagg Try.prog 52 = true := by kernel_rfl
@[simp] theorem y52in : tint Try.prog 52 = none := by kernel_rfl
@[simp] theorem y52st : tstr Try.prog 52 = false := by kernel_rfl
@[simp] theorem y52el : tel Try.prog 52 = none := by kernel_rfl
@[simp] theorem y52ze : tzero Try.prog 52 = some [.lit (.int .i64 0), .lit (.int .i64 0), .sl false 81 1 []] := by kernel_rfl
@[simp] theorem y52ok : tplOk Try.prog 52 = true := by kernel_rfl
@[simp] theorem y52f0 : tfld Try.prog 52 0 = some (0, 3) := by kernel_rfl
@[simp] theorem y52p0 : tplace Try.prog 52 0 = some (0, 1) := by kernel_rfl
@[simp] theorem y52f1 : tfld Try.prog 52 1 = some (1, 3) := by kernel_rfl
@[simp] theorem y52p1 : tplace Try.prog 52 1 = some (1, 1) := by kernel_rfl
@[simp] theorem y52f2 : tfld Try.prog 52 2 = some (2, 51) := by kernel_rfl
@[simp] theorem y52p2 : tplace Try.prog 52 2 = some (2, 1) := by kernel_rfl
@[simp] theorem y53sz : tsz Try.prog 53 = 3 := by kernel_rfl
@[simp] theorem y53by : tby Try.prog 53 = 40 := by kernel_rfl
@[simp] theorem y53kn : tkn Try.prog 53 = true := by kernel_rfl
@[simp] theorem y53ag : tagg Try.prog 53 = true := by kernel_rfl
@[simp] theorem y53in : tint Try.prog 53 = none := by kernel_rfl
@[simp] theorem y53st : tstr Try.prog 53 = false := by kernel_rfl
@[simp] theorem y53el : tel Try.prog 53 = none := by kernel_rfl
@[simp] theorem y53ze : tzero Try.prog 53 = some [.lit (.int .i64 0), .lit (.int .i64 0), .sl false 81 1 []] := by kernel_rfl
@[simp] theorem y53ok : tplOk Try.prog 53 = true := by kernel_rfl
@[simp] theorem y53f0 : tfld Try.prog 53 0 = some (0, 3) := by kernel_rfl
@[simp] theorem y53p0 : tplace Try.prog 53 0 = some (0, 1) := by kernel_rfl
@[simp] theorem y53f1 : tfld Try.prog 53 1 = some (1, 3) := by kernel_rfl
@[simp] theorem y53p1 : tplace Try.prog 53 1 = some (1, 1) := by kernel_rfl
@[simp] theorem y53f2 : tfld Try.prog 53 2 = some (2, 51) := by kernel_rfl
@[simp] theorem y53p2 : tplace Try.prog 53 2 = some (2, 1) := by kernel_rfl
@[simp] theorem y54sz : tsz Try.prog 54 = 1 := by kernel_rfl
@[simp] theorem y54by : tby Try.prog 54 = 24 := by kernel_rfl
@[simp] theorem y54kn : tkn Try.prog 54 = true := by kernel_rfl
@[simp] theorem y54ag : tagg Try.prog 54 = false := by kernel_rfl
@[simp] theorem y54in : tint Try.prog 54 = none := by kernel_rfl
@[simp] theorem y54st : tstr Try.prog 54 = false := by kernel_rfl
@[simp] theorem y54el : tel Try.prog 54 = some 87 := by kernel_rfl
@[simp] theorem y54ze : tzero Try.prog 54 = some [.sl false 87 20 []] := by kernel_rfl
@[simp] theorem y55sz : tsz Try.prog 55 = 8 := by kernel_rfl
@[simp] theorem y55by : tby Try.prog 55 = 128 := by kernel_rfl
@[simp] theorem y55kn : tkn Try.prog 55 = true := by kernel_rfl
@[simp] theorem y55ag : tagg Try.prog 55 = true := by kernel_rfl
@[simp] theorem y55in : tint Try.prog 55 = none := by kernel_rfl
@[simp] theorem y55st : tstr Try.prog 55 = false := by kernel_rfl
@[simp] theorem y55el : tel Try.prog 55 = none := by kernel_rfl
@[simp] theorem y55ze : tzero Try.prog 55 = some [.lit (.int .i64 0), .lit (.int .i64 0), .sl false 81 1 [], .sl false 87 20 [], .sl false 81 1 [], .lit (.int .i64 0), .lit (.int .i64 0), .sl false 81 1 []] := by kernel_rfl
@[simp] theorem y55ok : tplOk Try.prog 55 = true := by kernel_rfl
@[simp] theorem y55f0 : tfld Try.prog 55 0 = some (0, 53) := by kernel_rfl
@[simp] theorem y55p0 : tplace Try.prog 55 0 = some (0, 3) := by kernel_rfl
@[simp] theorem y55f1 : tfld Try.prog 55 1 = some (3, 54) := by kernel_rfl
@[simp] theorem y55p1 : tplace Try.prog 55 1 = some (3, 1) := by kernel_rfl
@[simp] theorem y55f2 : tfld Try.prog 55 2 = some (4, 51) := by kernel_rfl
@[simp] theorem y55p2 : tplace Try.prog 55 2 = some (4, 1) := by kernel_rfl
@[simp] theorem y55f3 : tfld Try.prog 55 3 = some (5, 53) := by kernel_rfl
@[simp] theorem y55p3 : tplace Try.prog 55 3 = some (5, 3) := by kernel_rfl
@[simp] theorem y56sz : tsz Try.prog 56 = 8 := by kernel_rfl
@[simp] theorem y56by : tby Try.prog 56 = 128 := by kernel_rfl
@[simp] theorem y56kn : tkn Try.prog 56 = true := by kernel_rfl
@[simp] theorem y56ag : tagg Try.prog 56 = true := by kernel_rfl
@[simp] theorem y56in : tint Try.prog 56 = none := by kernel_rfl
@[simp] theorem y56st : tstr Try.prog 56 = false := by kernel_rfl
@[simp] theorem y56el : tel Try.prog 56 = none := by kernel_rfl
@[simp] theorem y56ze : tzero Try.prog 56 = some [.lit (.int .i64 0), .lit (.int .i64 0), .sl false 81 1 [], .sl false 87 20 [], .sl false 81 1 [], .lit (.int .i64 0), .lit (.int .i64 0), .sl false 81 1 []] := by kernel_rfl
@[simp] theorem y56ok : tplOk Try.prog 56 = true := by kernel_rfl
@[simp] theorem y56f0 : tfld Try.prog 56 0 = some (0, 53) := by kernel_rfl
@[simp] theorem y56p0 : tplace Try.prog 56 0 = some (0, 3) := by kernel_rfl
@[simp] theorem y56f1 : tfld Try.prog 56 1 = some (3, 54) := by kernel_rfl
@[simp] theorem y56p1 : tplace Try.prog 56 1 = some (3, 1) := by kernel_rfl
@[simp] theorem y56f2 : tfld Try.prog 56 2 = some (4, 51) := by kernel_rfl
@[simp] theorem y56p2 : tplace Try.prog 56 2 = some (4, 1) := by kernel_rfl
@[simp] theorem y56f3 : tfld Try.prog 56 3 = some (5, 53) := by kernel_rfl
@[simp] theorem y56p3 : tplace Try.prog 56 3 = some (5, 3) := by kernel_rfl
@[simp] theorem y57sz : tsz Try.prog 57 = 1 := by kernel_rfl
@[simp] theorem y57by : tby Try.prog 57 = 24 := by kernel_rfl
@[simp] theorem y57kn : tkn Try.prog 57 = true := by kernel_rfl
@[simp] theorem y57ag : tagg Try.prog 57 = false := by kernel_rfl
@[simp] theorem y57in : tint Try.prog 57 = none := by kernel_rfl
@[simp] theorem y57st : tstr Try.prog 57 = false := by kernel_rfl
@[simp] theorem y57el : tel Try.prog 57 = some 121 := by kernel_rfl
@[simp] theorem y57ze : tzero Try.prog 57 = some [.sl false 121 20 []] := by kernel_rfl
@[simp] theorem y58sz : tsz Try.prog 58 = 8 := by kernel_rfl
@[simp] theorem y58by : tby Try.prog 58 = 128 := by kernel_rfl
@[simp] theorem y58kn : tkn Try.prog 58 = true := by kernel_rfl
@[simp] theorem y58ag : tagg Try.prog 58 = true := by kernel_rfl
@[simp] theorem y58in : tint Try.prog 58 = none := by kernel_rfl
@[simp] theorem y58st : tstr Try.prog 58 = false := by kernel_rfl
@[simp] theorem y58el : tel Try.prog 58 = none := by kernel_rfl
@[simp] theorem y58ze : tzero Try.prog 58 = some [.lit (.int .i64 0), .lit (.int .i64 0), .sl false 81 1 [], .sl false 121 20 [], .sl false 81 1 [], .lit (.int .i64 0), .lit (.int .i64 0), .sl false 81 1 []] := by kernel_rfl
@[simp] theorem y58ok : tplOk Try.prog 58 = true := by kernel_rfl
@[simp] theorem y58f0 : tfld Try.prog 58 0 = some (0, 53) := by kernel_rfl
@[simp] theorem y58p0 : tplace Try.prog 58 0 = some (0, 3) := by kernel_rfl
@[simp] theorem y58f1 : tfld Try.prog 58 1 = some (3, 57) := by kernel_rfl
@[simp] theorem y58p1 : tplace Try.prog 58 1 = some (3, 1) := by kernel_rfl
@[simp] theorem y58f2 : tfld Try.prog 58 2 = some (4, 51) := by kernel_rfl
@[simp] theorem y58p2 : tplace Try.prog 58 2 = some (4, 1) := by kernel_rfl
@[simp] theorem y58f3 : tfld Try.prog 58 3 = some (5, 53) := by kernel_rfl
@[simp] theorem y58p3 : tplace Try.prog 58 3 = some (5, 3) := by kernel_rfl
@[simp] theorem y59sz : tsz Try.prog 59 = 8 := by kernel_rfl
@[simp] theorem y59by : tby Try.prog 59 = 128 := by kernel_rfl
@[simp] theorem y59kn : tkn Try.prog 59 = true := by kernel_rfl
@[simp] theorem y59ag : tagg Try.prog 59 = true := by kernel_rfl
@[simp] theorem y59in : tint Try.prog 59 = none := by kernel_rfl
@[simp] theorem y59st : tstr Try.prog 59 = false := by kernel_rfl
@[simp] theorem y59el : tel Try.prog 59 = none := by kernel_rfl
@[simp] theorem y59ze : tzero Try.prog 59 = some [.lit (.int .i64 0), .lit (.int .i64 0), .sl false 81 1 [], .sl false 121 20 [], .sl false 81 1 [], .lit (.int .i64 0), .lit (.int .i64 0), .sl false 81 1 []] := by kernel_rfl
@[simp] theorem y59ok : tplOk Try.prog 59 = true := by kernel_rfl
@[simp] theorem y59f0 : tfld Try.prog 59 0 = some (0, 53) := by kernel_rfl
@[simp] theorem y59p0 : tplace Try.prog 59 0 = some (0, 3) := by kernel_rfl
@[simp] theorem y59f1 : tfld Try.prog 59 1 = some (3, 57) := by kernel_rfl
@[simp] theorem y59p1 : tplace Try.prog 59 1 = some (3, 1) := by kernel_rfl
@[simp] theorem y59f2 : tfld Try.prog 59 2 = some (4, 51) := by kernel_rfl
@[simp] theorem y59p2 : tplace Try.prog 59 2 = some (4, 1) := by kernel_rfl
@[simp] theorem y59f3 : tfld Try.prog 59 3 = some (5, 53) := by kernel_rfl
@[simp] theorem y59p3 : tplace Try.prog 59 3 = some (5, 3) := by kernel_rfl
@[simp] theorem y68sz : tsz Try.prog 68 = 3 := by kernel_rfl
@[simp] theorem y68by : tby Try.prog 68 = 72 := by kernel_rfl
@[simp] theorem y68kn : tkn Try.prog 68 = true := by kernel_rfl
@[simp] theorem y68ag : tagg Try.prog 68 = true := by kernel_rfl
@[simp] theorem y68in : tint Try.prog 68 = none := by kernel_rfl
@[simp] theorem y68st : tstr Try.prog 68 = false := by kernel_rfl
@[simp] theorem y68el : tel Try.prog 68 = none := by kernel_rfl
@[simp] theorem y68ze : tzero Try.prog 68 = some [.sl false 79 1 [], .sl false 79 1 [], .sl false 79 1 []] := by kernel_rfl
@[simp] theorem y68ok : tplOk Try.prog 68 = true := by kernel_rfl
@[simp] theorem y68f0 : tfld Try.prog 68 0 = some (0, 28) := by kernel_rfl
@[simp] theorem y68p0 : tplace Try.prog 68 0 = some (0, 1) := by kernel_rfl
@[simp] theorem y68f1 : tfld Try.prog 68 1 = some (1, 28) := by kernel_rfl
@[simp] theorem y68p1 : tplace Try.prog 68 1 = some (1, 1) := by kernel_rfl
@[simp] theorem y68f2 : tfld Try.prog 68 2 = some (2, 28) := by kernel_rfl
@[simp] theorem y68p2 : tplace Try.prog 68 2 = some (2, 1) := by kernel_rfl
@[simp] theorem y69sz : tsz Try.prog 69 = 3 := by kernel_rfl
@[simp] theorem y69by : tby Try.prog 69 = 72 := by kernel_rfl
@[simp] theorem y69kn : tkn Try.prog 69 = true := by kernel_rfl
@[simp] theorem y69ag : tagg Try.prog 69 = true := by kernel_rfl
@[simp] theorem y69in : tint Try.prog 69 = none := by kernel_rfl
@[simp] theorem y69st : tstr Try.prog 69 = false := by kernel_rfl
@[simp] theorem y69el : tel Try.prog 69 = none := by kernel_rfl
@[simp] theorem y69ze : tzero Try.prog 69 = some [.sl false 79 1 [], .sl false 79 1 [], .sl false 79 1 []] := by kernel_rfl
@[simp] theorem y69ok : tplOk Try.prog 69 = true := by kernel_rfl
@[simp] theorem y69f0 : tfld Try.prog 69 0 = some (0, 28) := by kernel_rfl
@[simp] theorem y69p0 : tplace Try.prog 69 0 = some (0, 1) := by kernel_rfl
@[simp] theorem y69f1 : tfld Try.prog 69 1 = some (1, 28) := by kernel_rfl
@[simp] theorem y69p1 : tplace Try.prog 69 1 = some (1, 1) := by kernel_rfl
@[simp] theorem y69f2 : tfld Try.prog 69 2 = some (2, 28) := by kernel_rfl
@[simp] theorem y69p2 : tplace Try.prog 69 2 = some (2, 1) := by kernel_rfl
@[simp] theorem y75sz : tsz Try.prog 75 = 1 := by kernel_rfl
@[simp] theorem y75by : tby Try.prog 75 = 8 := by kernel_rfl
@[simp] theorem y75kn : tkn Try.prog 75 = true := by kernel_rfl
@[simp] theorem y75ag : tagg Try.prog 75 = false := by kernel_rfl
@[simp] theorem y75in : tint Try.prog 75 = some .u64 := by kernel_rfl
@[simp] theorem y75st : tstr Try.prog 75 = false := by kernel_rfl
@[simp] theorem y75el : tel Try.prog 75 = none := by kernel_rfl
@[simp] theorem y75ze : tzero Try.prog 75 = some [.lit (.int .u64 0)] := by kernel_rfl
@[simp] theorem y79sz : tsz Try.prog 79 = 1 := by kernel_rfl
@[simp] theorem y79by : tby Try.prog 79 = 24 := by kernel_rfl
@[simp] theorem y79kn : tkn Try.prog 79 = true := by kernel_rfl
@[simp] theorem y79ag : tagg Try.prog 79 = false := by kernel_rfl
@[simp] theorem y79in : tint Try.prog 79 = none := by kernel_rfl
@[simp] theorem y79st : tstr Try.prog 79 = false := by kernel_rfl
@[simp] theorem y79el : tel Try.prog 79 = some 51 := by kernel_rfl
@[simp] theorem y79ze : tzero Try.prog 79 = some [.sl false 51 1 []] := by kernel_rfl
@[simp] theorem y81sz : tsz Try.prog 81 = 1 := by kernel_rfl
@[simp] theorem y81by : tby Try.prog 81 = 4 := by kernel_rfl
@[simp] theorem y81kn : tkn Try.prog 81 = true := by kernel_rfl
@[simp] theorem y81ag : tagg Try.prog 81 = false := by kernel_rfl
@[simp] theorem y81in : tint Try.prog 81 = some .i32 := by kernel_rfl
@[simp] theorem y81st : tstr Try.prog 81 = false := by kernel_rfl
@[simp] theorem y81el : tel Try.prog 81 = none := by kernel_rfl
@[simp] theorem y81ze : tzero Try.prog 81 = some [.lit (.int .i32 0)] := by kernel_rfl
@[simp] theorem y86sz : tsz Try.prog 86 = 20 := by kernel_rfl
@[simp] theorem y86by : tby Try.prog 86 = 288 := by kernel_rfl
@[simp] theorem y86kn : tkn Try.prog 86 = true := by kernel_rfl
@[simp] theorem y86ag : tagg Try.prog 86 = true := by kernel_rfl
@[simp] theorem y86in : tint Try.prog 86 = none := by kernel_rfl
@[simp] theorem y86st : tstr Try.prog 86 = false := by kernel_rfl
@[simp] theorem y86el : tel Try.prog 86 = none := by kernel_rfl
@[simp] theorem y86ze : tzero Try.prog 86 = some [.sl false 81 1 [], .lit (.int .i64 0), .lit (.int .i64 0), .sl false 81 1 [], .lit (.int .i64 0), .lit (.int .i64 0), .sl false 81 1 [], .lit (.int .i64 0), .lit (.int .i64 0), .sl false 81 1 [], .lit (.int .i64 0), .lit (.int .i64 0), .sl false 81 1 [], .sl false 81 1 [], .lit (.int .i64 0), .lit (.int .i64 0), .sl false 81 1 [], .lit (.int .i64 0), .lit (.int .i64 0), .sl false 81 1 []] := by kernel_rfl
@[simp] theorem y86ok : tplOk Try.prog 86 = true := by kernel_rfl
@[simp] theorem y86f0 : tfld Try.prog 86 0 = some (0, 51) := by kernel_rfl
@[simp] theorem y86p0 : tplace Try.prog 86 0 = some (0, 1) := by kernel_rfl
@[simp] theorem y86f1 : tfld Try.prog 86 1 = some (1, 53) := by kernel_rfl
@[simp] theorem y86p1 : tplace Try.prog 86 1 = some (1, 3) := by kernel_rfl
@[simp] theorem y86f2 : tfld Try.prog 86 2 = some (4, 53) := by kernel_rfl
@[simp] theorem y86p2 : tplace Try.prog 86 2 = some (4, 3) := by kernel_rfl
@[simp] theorem y86f3 : tfld Try.prog 86 3 = some (7, 53) := by kernel_rfl
@[simp] theorem y86p3 : tplace Try.prog 86 3 = some (7, 3) := by kernel_rfl
@[simp] theorem y86f4 : tfld Try.prog 86 4 = some (10, 53) := by kernel_rfl
@[simp] theorem y86p4 : tplace Try.prog 86 4 = some (10, 3) := by kernel_rfl
@[simp] theorem y86f5 : tfld Try.prog 86 5 = some (13, 51) := by kernel_rfl
@[simp] theorem y86p5 : tplace Try.prog 86 5 = some (13, 1) := by kernel_rfl
@[simp] theorem y86f6 : tfld Try.prog 86 6 = some (14, 53) := by kernel_rfl
@[simp] theorem y86p6 : tplace Try.prog 86 6 = some (14, 3) := by kernel_rfl
@[simp] theorem y86f7 : tfld Try.prog 86 7 = some (17, 53) := by kernel_rfl
@[simp] theorem y86p7 : tplace Try.prog 86 7 = some (17, 3) := by kernel_rfl
@[simp] theorem y87sz : tsz Try.prog 87 = 20 := by kernel_rfl
@[simp] theorem y87by : tby Try.prog 87 = 288 := by kernel_rfl
@[simp] theorem y87kn : tkn Try.prog 87 = true := by kernel_rfl
@[simp] theorem y87ag : tagg Try.prog 87 = true := by kernel_rfl
@[simp] theorem y87in : tint Try.prog 87 = none := by kernel_rfl
@[simp] theorem y87st : tstr Try.prog 87 = false := by kernel_rfl
@[simp] theorem y87el : tel Try.prog 87 = none := by kernel_rfl
@[simp] theorem y87ze : tzero Try.prog 87 = some [.sl false 81 1 [], .lit (.int .i64 0), .lit (.int .i64 0), .sl false 81 1 [], .lit (.int .i64 0), .lit (.int .i64 0), .sl false 81 1 [], .lit (.int .i64 0), .lit (.int .i64 0), .sl false 81 1 [], .lit (.int .i64 0), .lit (.int .i64 0), .sl false 81 1 [], .sl false 81 1 [], .lit (.int .i64 0), .lit (.int .i64 0), .sl false 81 1 [], .lit (.int .i64 0), .lit (.int .i64 0), .sl false 81 1 []] := by kernel_rfl
@[simp] theorem y87ok : tplOk Try.prog 87 = true := by kernel_rfl
@[simp] theorem y87f0 : tfld Try.prog 87 0 = some (0, 51) := by kernel_rfl
@[simp] theorem y87p0 : tplace Try.prog 87 0 = some (0, 1) := by kernel_rfl
@[simp] theorem y87f1 : tfld Try.prog 87 1 = some (1, 53) := by kernel_rfl
@[simp] theorem y87p1 : tplace Try.prog 87 1 = some (1, 3) := by kernel_rfl
@[simp] theorem y87f2 : tfld Try.prog 87 2 = some (4, 53) := by kernel_rfl
@[simp] theorem y87p2 : tplace Try.prog 87 2 = some (4, 3) := by kernel_rfl
@[simp] theorem y87f3 : tfld Try.prog 87 3 = some (7, 53) := by kernel_rfl
@[simp] theorem y87p3 : tplace Try.prog 87 3 = some (7, 3) := by kernel_rfl
@[simp] theorem y87f4 : tfld Try.prog 87 4 = some (10, 53) := by kernel_rfl
@[simp] theorem y87p4 : tplace Try.prog 87 4 = some (10, 3) := by kernel_rfl
@[simp] theorem y87f5 : tfld Try.prog 87 5 = some (13, 51) := by kernel_rfl
@[simp] theorem y87p5 : tplace Try.prog 87 5 = some (13, 1) := by kernel_rfl
@[simp] theorem y87f6 : tfld Try.prog 87 6 = some (14, 53) := by kernel_rfl
@[simp] theorem y87p6 : tplace Try.prog 87 6 = some (14, 3) := by kernel_rfl
@[simp] theorem y87f7 : tfld Try.prog 87 7 = some (17, 53) := by kernel_rfl
@[simp] theorem y87p7 : tplace Try.prog 87 7 = some (17, 3) := by kernel_rfl
@[simp] theorem y107sz : tsz Try.prog 107 = 1 := by kernel_rfl
@[simp] theorem y107by : tby Try.prog 107 = 24 := by kernel_rfl
@[simp] theorem y107kn : tkn Try.prog 107 = true := by kernel_rfl
@[simp] theorem y107ag : tagg Try.prog 107 = false := by kernel_rfl
@[simp] theorem y107in : tint Try.prog 107 = none := by kernel_rfl
@[simp] theorem y107st : tstr Try.prog 107 = false := by kernel_rfl
@[simp] theorem y107el : tel Try.prog 107 = some 28 := by kernel_rfl
@[simp] theorem y107ze : tzero Try.prog 107 = some [.sl false 28 1 []] := by kernel_rfl
@[simp] theorem y121sz : tsz Try.prog 121 = 20 := by kernel_rfl
@[simp] theorem y121by : tby Try.prog 121 = 288 := by kernel_rfl
@[simp] theorem y121kn : tkn Try.prog 121 = true := by kernel_rfl
@[simp] theorem y121ag : tagg Try.prog 121 = true := by kernel_rfl
@[simp] theorem y121in : tint Try.prog 121 = none := by kernel_rfl
@[simp] theorem y121st : tstr Try.prog 121 = false := by kernel_rfl
@[simp] theorem y121el : tel Try.prog 121 = none := by kernel_rfl
@[simp] theorem y121ze : tzero Try.prog 121 = some [.sl false 81 1 [], .lit (.int .i64 0), .lit (.int .i64 0), .sl false 81 1 [], .lit (.int .i64 0), .lit (.int .i64 0), .sl false 81 1 [], .lit (.int .i64 0), .lit (.int .i64 0), .sl false 81 1 [], .lit (.int .i64 0), .lit (.int .i64 0), .sl false 81 1 [], .sl false 81 1 [], .lit (.int .i64 0), .lit (.int .i64 0), .sl false 81 1 [], .lit (.int .i64 0), .lit (.int .i64 0), .sl false 81 1 []] := by kernel_rfl
@[simp] theorem y121ok : tplOk Try.prog 121 = true := by kernel_rfl
@[simp] theorem y121f0 : tfld Try.prog 121 0 = some (0, 51) := by kernel_rfl
@[simp] theorem y121p0 : tplace Try.prog 121 0 = some (0, 1) := by kernel_rfl
@[simp] theorem y121f1 : tfld Try.prog 121 1 = some (1, 53) := by kernel_rfl
@[simp] theorem y121p1 : tplace Try.prog 121 1 = some (1, 3) := by kernel_rfl
@[simp] theorem y121f2 : tfld Try.prog 121 2 = some (4, 53) := by kernel_rfl
@[simp] theorem y121p2 : tplace Try.prog 121 2 = some (4, 3) := by kernel_rfl
@[simp] theorem y121f3 : tfld Try.prog 121 3 = some (7, 53) := by kernel_rfl
@[simp] theorem y121p3 : tplace Try.prog 121 3 = some (7, 3) := by kernel_rfl
@[simp] theorem y121f4 : tfld Try.prog 121 4 = some (10, 53) := by kernel_rfl
@[simp] theorem y121p4 : tplace Try.prog 121 4 = some (10, 3) := by kernel_rfl
@[simp] theorem y121f5 : tfld Try.prog 121 5 = some (13, 51) := by kernel_rfl
@[simp] theorem y121p5 : tplace Try.prog 121 5 = some (13, 1) := by kernel_rfl
@[simp] theorem y121f6 : tfld Try.prog 121 6 = some (14, 53) := by kernel_rfl
@[simp] theorem y121p6 : tplace Try.prog 121 6 = some (14, 3) := by kernel_rfl
@[simp] theorem y121f7 : tfld Try.prog 121 7 = some (17, 53) := by kernel_rfl
@[simp] theorem y121p7 : tplace Try.prog 121 7 = some (17, 3) := by kernel_rfl
@[simp] theorem y128sz : tsz Try.prog 128 = 1 := by kernel_rfl
@[simp] theorem y128by : tby Try.prog 128 = 24 := by kernel_rfl
@[simp] theorem y128kn : tkn Try.prog 128 = true := by kernel_rfl
@[simp] theorem y128ag : tagg Try.prog 128 = false := by kernel_rfl
@[simp] theorem y128in : tint Try.prog 128 = none := by kernel_rfl
@[simp] theorem y128st : tstr Try.prog 128 = false := by kernel_rfl
@[simp] theorem y128el : tel Try.prog 128 = some 53 := by kernel_rfl
@[simp] theorem y128ze : tzero Try.prog 128 = some [.sl false 53 3 []] := by kernel_rfl
@[simp] theorem y135sz : tsz Try.prog 135 = 1 := by kernel_rfl
@[simp] theorem y135by : tby Try.prog 135 = 8 := by kernel_rfl
@[simp] theorem y135kn : tkn Try.prog 135 = true := by kernel_rfl
@[simp] theorem y135ag : tagg Try.prog 135 = true := by kernel_rfl
@[simp] theorem y135in : tint Try.prog 135 = none := by kernel_rfl
@[simp] theorem y135st : tstr Try.prog 135 = false := by kernel_rfl
@[simp] theorem y135el : tel Try.prog 135 = none := by kernel_rfl
@[simp] theorem y135ze : tzero Try.prog 135 = some [.lit (.int .u64 0)] := by kernel_rfl
@[simp] theorem y135ok : tplOk Try.prog 135 = true := by kernel_rfl
@[simp] theorem y135f0 : tfld Try.prog 135 0 = some (0, 75) := by kernel_rfl
@[simp] theorem y135p0 : tplace Try.prog 135 0 = some (0, 1) := by kernel_rfl
@[simp] theorem y136sz : tsz Try.prog 136 = 1 := by kernel_rfl
@[simp] theorem y136by : tby Try.prog 136 = 8 := by kernel_rfl
@[simp] theorem y136kn : tkn Try.prog 136 = true := by kernel_rfl
@[simp] theorem y136ag : tagg Try.prog 136 = true := by kernel_rfl
@[simp] theorem y136in : tint Try.prog 136 = none := by kernel_rfl
@[simp] theorem y136st : tstr Try.prog 136 = false := by kernel_rfl
@[simp] theorem y136el : tel Try.prog 136 = none := by kernel_rfl
@[simp] theorem y136ze : tzero Try.prog 136 = some [.lit (.int .u64 0)] := by kernel_rfl
@[simp] theorem y136ok : tplOk Try.prog 136 = true := by kernel_rfl
@[simp] theorem y136f0 : tfld Try.prog 136 0 = some (0, 75) := by kernel_rfl
@[simp] theorem y136p0 : tplace Try.prog 136 0 = some (0, 1) := by kernel_rfl
@[simp] theorem y152sz : tsz Try.prog 152 = 1 := by kernel_rfl
@[simp] theorem y152by : tby Try.prog 152 = 24 := by kernel_rfl
@[simp] theorem y152kn : tkn Try.prog 152 = true := by kernel_rfl
@[simp] theorem y152ag : tagg Try.prog 152 = false := by kernel_rfl
@[simp] theorem y152in : tint Try.prog 152 = none := by kernel_rfl
@[simp] theorem y152st : tstr Try.prog 152 = false := by kernel_rfl
@[simp] theorem y152el : tel Try.prog 152 = some 5 := by kernel_rfl
@[simp] theorem y152ze : tzero Try.prog 152 = some [.sl false 5 1 []] := by kernel_rfl
@[simp] theorem y153sz : tsz Try.prog 153 = 1 := by kernel_rfl
@[simp] theorem y153by : tby Try.prog 153 = 4 := by kernel_rfl
@[simp] theorem y153kn : tkn Try.prog 153 = true := by kernel_rfl
@[simp] theorem y153ag : tagg Try.prog 153 = false := by kernel_rfl
@[simp] theorem y153in : tint Try.prog 153 = some .u32 := by kernel_rfl
@[simp] theorem y153st : tstr Try.prog 153 = false := by kernel_rfl
@[simp] theorem y153el : tel Try.prog 153 = none := by kernel_rfl
@[simp] theorem y153ze : tzero Try.prog 153 = some [.lit (.int .u32 0)] := by kernel_rfl
@[simp] theorem y154sz : tsz Try.prog 154 = 1 := by kernel_rfl
@[simp] theorem y154by : tby Try.prog 154 = 8 := by kernel_rfl
@[simp] theorem y154kn : tkn Try.prog 154 = true := by kernel_rfl
@[simp] theorem y154ag : tagg Try.prog 154 = false := by kernel_rfl
@[simp] theorem y154in : tint Try.prog 154 = some .u64 := by kernel_rfl
@[simp] theorem y154st : tstr Try.prog 154 = false := by kernel_rfl
@[simp] theorem y154el : tel Try.prog 154 = none := by kernel_rfl
@[simp] theorem y154ze : tzero Try.prog 154 = some [.lit (.int .u64 0)] := by kernel_rfl
@[simp] theorem y188sz : tsz Try.prog 188 = 1 := by kernel_rfl
@[simp] theorem y188by : tby Try.prog 188 = 24 := by kernel_rfl
@[simp] theorem y188kn : tkn Try.prog 188 = true := by kernel_rfl
@[simp] theorem y188ag : tagg Try.prog 188 = false := by kernel_rfl
@[simp] theorem y188in : tint Try.prog 188 = none := by kernel_rfl
@[simp] theorem y188st : tstr Try.prog 188 = false := by kernel_rfl
@[simp] theorem y188el : tel Try.prog 188 = some 2 := by kernel_rfl
@[simp] theorem y188ze : tzero Try.prog 188 = some [.sl false 2 1 []] := by kernel_rfl
@[simp] theorem y200sz : tsz Try.prog 200 = 1 := by kernel_rfl
@[simp] theorem y200by : tby Try.prog 200 = 1 := by kernel_rfl
@[simp] theorem y200kn : tkn Try.prog 200 = true := by kernel_rfl
@[simp] theorem y200ag : tagg Try.prog 200 = false := by kernel_rfl
@[simp] theorem y200in : tint Try.prog 200 = some .u8 := by kernel_rfl
@[simp] theorem y200st : tstr Try.prog 200 = false := by kernel_rfl
@[simp] theorem y200el : tel Try.prog 200 = none := by kernel_rfl
@[simp] theorem y200ze : tzero Try.prog 200 = some [.lit (.int .u8 0)] := by kernel_rfl
end Go.Proofs.Ytmbmebfeoejlnaa.Ab
