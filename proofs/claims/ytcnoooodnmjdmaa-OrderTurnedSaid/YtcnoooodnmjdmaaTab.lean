/- The tables of the seat's types. Written by tab.py. -/
import Derived.Test.YtcnoooodnmjdmaaAi2
import Derived.Test.YtcnoooodnmjdmaaProg
import Derived.KernelRfl
set_option linter.unusedSimpArgs false
set_option maxRecDepth 100000
namespace Go.Proofs.Ytcnoooodnmjdmaa
open Go.RowKit
theorem tsz1 : tsz Try.prog 1 = some 1 := by kernel_rfl
theorem tq1 : tq Try.prog 1 = some (1, 8, some 1) := by kernel_rfl
theorem zrow1 : zrow Try.prog 1 = some (.raw [.v .nilFunc]) := by kernel_rfl
theorem ty1 : ty Try.prog 1 = none := by kernel_rfl
theorem tsz2 : tsz Try.prog 2 = some 1 := by kernel_rfl
theorem tq2 : tq Try.prog 2 = some (1, 8, some 1) := by kernel_rfl
theorem zrow2 : zrow Try.prog 2 = some (.raw [.v (.int .i64 0)]) := by kernel_rfl
theorem ty2 : ty Try.prog 2 = some (.i .i64) := by kernel_rfl
theorem to2 : tyOf Try.prog 1 2 = some (.i .i64) := by kernel_rfl
theorem tsz3 : tsz Try.prog 3 = some 1 := by kernel_rfl
theorem tq3 : tq Try.prog 3 = some (1, 8, some 1) := by kernel_rfl
theorem zrow3 : zrow Try.prog 3 = some (.raw [.v (.int .i64 0)]) := by kernel_rfl
theorem ty3 : ty Try.prog 3 = some (.i .i64) := by kernel_rfl
theorem to3 : tyOf Try.prog 1 3 = some (.i .i64) := by kernel_rfl
theorem tsz4 : tsz Try.prog 4 = some 1 := by kernel_rfl
theorem tq4 : tq Try.prog 4 = some (1, 1, some 1) := by kernel_rfl
theorem zrow4 : zrow Try.prog 4 = some (.raw [.v (.bool false)]) := by kernel_rfl
theorem ty4 : ty Try.prog 4 = some (.bo) := by kernel_rfl
theorem to4 : tyOf Try.prog 1 4 = some (.bo) := by kernel_rfl
theorem tsz5 : tsz Try.prog 5 = some 1 := by kernel_rfl
theorem tq5 : tq Try.prog 5 = some (1, 1, some 1) := by kernel_rfl
theorem zrow5 : zrow Try.prog 5 = some (.raw [.v (.int .u8 0)]) := by kernel_rfl
theorem ty5 : ty Try.prog 5 = some (.i .u8) := by kernel_rfl
theorem to5 : tyOf Try.prog 1 5 = some (.i .u8) := by kernel_rfl
theorem tsz6 : tsz Try.prog 6 = some 1 := by kernel_rfl
theorem tq6 : tq Try.prog 6 = some (1, 1, some 1) := by kernel_rfl
theorem zrow6 : zrow Try.prog 6 = some (.raw [.v (.int .u8 0)]) := by kernel_rfl
theorem ty6 : ty Try.prog 6 = some (.i .u8) := by kernel_rfl
theorem to6 : tyOf Try.prog 1 6 = some (.i .u8) := by kernel_rfl
theorem tsz7 : tsz Try.prog 7 = some 4 := by kernel_rfl
theorem tq7 : tq Try.prog 7 = some (4, 24, some 4) := by kernel_rfl
theorem zrow7 : zrow Try.prog 7 = some (.raw [.v (.int .i64 0), .v (.int .i64 0), .v (.bool false), .v (.int .u8 0)]) := by kernel_rfl
theorem zcells7 : zcells Try.prog 7 = some [.v (.int .i64 0), .v (.int .i64 0), .v (.bool false), .v (.int .u8 0)] := by kernel_rfl
theorem ty7 : ty Try.prog 7 = some (.pr (.i .i64) (.pr (.i .i64) (.pr (.bo) (.i .u8)))) := by kernel_rfl
theorem eqf7 : eqfs Try.prog 7 = some [(0, .i .i64), (1, .i .i64), (2, .bo), (3, .i .u8)] := by kernel_rfl
theorem to7 : tyOf Try.prog 1 7 = none := by kernel_rfl
theorem fo7_0 : fo Try.prog 7 0 = some (0, 2) := by kernel_rfl
theorem fo7_1 : fo Try.prog 7 1 = some (1, 3) := by kernel_rfl
theorem fo7_2 : fo Try.prog 7 2 = some (2, 4) := by kernel_rfl
theorem fo7_3 : fo Try.prog 7 3 = some (3, 6) := by kernel_rfl
theorem stq7 : stq Try.prog 7 = some [(0, 1), (1, 1), (2, 1), (3, 1)] := by kernel_rfl
theorem tsz8 : tsz Try.prog 8 = some 4 := by kernel_rfl
theorem tq8 : tq Try.prog 8 = some (4, 24, some 4) := by kernel_rfl
theorem zrow8 : zrow Try.prog 8 = some (.raw [.v (.int .i64 0), .v (.int .i64 0), .v (.bool false), .v (.int .u8 0)]) := by kernel_rfl
theorem zcells8 : zcells Try.prog 8 = some [.v (.int .i64 0), .v (.int .i64 0), .v (.bool false), .v (.int .u8 0)] := by kernel_rfl
theorem ty8 : ty Try.prog 8 = some (.pr (.i .i64) (.pr (.i .i64) (.pr (.bo) (.i .u8)))) := by kernel_rfl
theorem eqf8 : eqfs Try.prog 8 = some [(0, .i .i64), (1, .i .i64), (2, .bo), (3, .i .u8)] := by kernel_rfl
theorem to8 : tyOf Try.prog 1 8 = none := by kernel_rfl
theorem fo8_0 : fo Try.prog 8 0 = some (0, 2) := by kernel_rfl
theorem fo8_1 : fo Try.prog 8 1 = some (1, 3) := by kernel_rfl
theorem fo8_2 : fo Try.prog 8 2 = some (2, 4) := by kernel_rfl
theorem fo8_3 : fo Try.prog 8 3 = some (3, 6) := by kernel_rfl
theorem stq8 : stq Try.prog 8 = some [(0, 1), (1, 1), (2, 1), (3, 1)] := by kernel_rfl
theorem tsz9 : tsz Try.prog 9 = some 1 := by kernel_rfl
theorem tq9 : tq Try.prog 9 = some (1, 16, some 1) := by kernel_rfl
theorem zrow9 : zrow Try.prog 9 = some (.raw [.v (.string ⟨#[]⟩)]) := by kernel_rfl
theorem ty9 : ty Try.prog 9 = some (.st) := by kernel_rfl
theorem sos9 : slOrStr Try.prog 9 = true := by kernel_rfl
theorem to9 : tyOf Try.prog 1 9 = some (.st) := by kernel_rfl
theorem tsz10 : tsz Try.prog 10 = some 1 := by kernel_rfl
theorem tq10 : tq Try.prog 10 = some (1, 16, some 1) := by kernel_rfl
theorem zrow10 : zrow Try.prog 10 = some (.raw [.v (.string ⟨#[]⟩)]) := by kernel_rfl
theorem ty10 : ty Try.prog 10 = some (.st) := by kernel_rfl
theorem sos10 : slOrStr Try.prog 10 = true := by kernel_rfl
theorem to10 : tyOf Try.prog 1 10 = some (.st) := by kernel_rfl
theorem tsz11 : tsz Try.prog 11 = some 1 := by kernel_rfl
theorem tq11 : tq Try.prog 11 = some (1, 16, some 1) := by kernel_rfl
theorem zrow11 : zrow Try.prog 11 = some (.raw [.v (.string ⟨#[]⟩)]) := by kernel_rfl
theorem ty11 : ty Try.prog 11 = some (.st) := by kernel_rfl
theorem sos11 : slOrStr Try.prog 11 = true := by kernel_rfl
theorem to11 : tyOf Try.prog 1 11 = some (.st) := by kernel_rfl
theorem tsz12 : tsz Try.prog 12 = some 1 := by kernel_rfl
theorem tq12 : tq Try.prog 12 = some (1, 8, some 1) := by kernel_rfl
theorem zrow12 : zrow Try.prog 12 = some (.raw [.v (.int .u64 0)]) := by kernel_rfl
theorem ty12 : ty Try.prog 12 = some (.i .u64) := by kernel_rfl
theorem to12 : tyOf Try.prog 1 12 = some (.i .u64) := by kernel_rfl
theorem tsz13 : tsz Try.prog 13 = some 2 := by kernel_rfl
theorem tq13 : tq Try.prog 13 = some (2, 24, some 2) := by kernel_rfl
theorem zrow13 : zrow Try.prog 13 = some (.raw [.v (.string ⟨#[]⟩), .v (.int .u64 0)]) := by kernel_rfl
theorem zcells13 : zcells Try.prog 13 = some [.v (.string ⟨#[]⟩), .v (.int .u64 0)] := by kernel_rfl
theorem ty13 : ty Try.prog 13 = some (.pr (.st) (.i .u64)) := by kernel_rfl
theorem to13 : tyOf Try.prog 1 13 = none := by kernel_rfl
theorem fo13_0 : fo Try.prog 13 0 = some (0, 9) := by kernel_rfl
theorem fo13_1 : fo Try.prog 13 1 = some (1, 12) := by kernel_rfl
theorem stq13 : stq Try.prog 13 = some [(0, 1), (1, 1)] := by kernel_rfl
theorem tsz14 : tsz Try.prog 14 = some 2 := by kernel_rfl
theorem tq14 : tq Try.prog 14 = some (2, 24, some 2) := by kernel_rfl
theorem zrow14 : zrow Try.prog 14 = some (.raw [.v (.string ⟨#[]⟩), .v (.int .u64 0)]) := by kernel_rfl
theorem zcells14 : zcells Try.prog 14 = some [.v (.string ⟨#[]⟩), .v (.int .u64 0)] := by kernel_rfl
theorem ty14 : ty Try.prog 14 = some (.pr (.st) (.i .u64)) := by kernel_rfl
theorem to14 : tyOf Try.prog 1 14 = none := by kernel_rfl
theorem fo14_0 : fo Try.prog 14 0 = some (0, 9) := by kernel_rfl
theorem fo14_1 : fo Try.prog 14 1 = some (1, 12) := by kernel_rfl
theorem stq14 : stq Try.prog 14 = some [(0, 1), (1, 1)] := by kernel_rfl
theorem tsz15 : tsz Try.prog 15 = some 1 := by kernel_rfl
theorem tq15 : tq Try.prog 15 = some (1, 8, some 1) := by kernel_rfl
theorem zrow15 : zrow Try.prog 15 = some (.raw [.v (.pointer none)]) := by kernel_rfl
theorem ty15 : ty Try.prog 15 = none := by kernel_rfl
theorem to15 : tyOf Try.prog 1 15 = none := by kernel_rfl
theorem tsz16 : tsz Try.prog 16 = some 1 := by kernel_rfl
theorem tq16 : tq Try.prog 16 = some (1, 8, some 1) := by kernel_rfl
theorem zrow16 : zrow Try.prog 16 = some (.raw [.v (.pointer none)]) := by kernel_rfl
theorem ty16 : ty Try.prog 16 = none := by kernel_rfl
theorem to16 : tyOf Try.prog 1 16 = none := by kernel_rfl
theorem tsz17 : tsz Try.prog 17 = some 1 := by kernel_rfl
theorem tq17 : tq Try.prog 17 = some (1, 8, some 1) := by kernel_rfl
theorem zrow17 : zrow Try.prog 17 = some (.raw [.v (.pointer none)]) := by kernel_rfl
theorem ty17 : ty Try.prog 17 = none := by kernel_rfl
theorem to17 : tyOf Try.prog 1 17 = none := by kernel_rfl
theorem tsz18 : tsz Try.prog 18 = some 1 := by kernel_rfl
theorem tq18 : tq Try.prog 18 = some (1, 8, some 1) := by kernel_rfl
theorem zrow18 : zrow Try.prog 18 = some (.raw [.v (.pointer none)]) := by kernel_rfl
theorem zcells18 : zcells Try.prog 18 = some [.v (.pointer none)] := by kernel_rfl
theorem ty18 : ty Try.prog 18 = none := by kernel_rfl
theorem to18 : tyOf Try.prog 1 18 = none := by kernel_rfl
theorem fo18_0 : fo Try.prog 18 0 = some (0, 17) := by kernel_rfl
theorem stq18 : stq Try.prog 18 = some [(0, 1)] := by kernel_rfl
theorem tsz19 : tsz Try.prog 19 = some 1 := by kernel_rfl
theorem tq19 : tq Try.prog 19 = some (1, 8, some 1) := by kernel_rfl
theorem zrow19 : zrow Try.prog 19 = some (.raw [.v (.pointer none)]) := by kernel_rfl
theorem zcells19 : zcells Try.prog 19 = some [.v (.pointer none)] := by kernel_rfl
theorem ty19 : ty Try.prog 19 = none := by kernel_rfl
theorem to19 : tyOf Try.prog 1 19 = none := by kernel_rfl
theorem fo19_0 : fo Try.prog 19 0 = some (0, 17) := by kernel_rfl
theorem stq19 : stq Try.prog 19 = some [(0, 1)] := by kernel_rfl
theorem tsz21 : tsz Try.prog 21 = some 1 := by kernel_rfl
theorem tq21 : tq Try.prog 21 = some (1, 4, some 1) := by kernel_rfl
theorem zrow21 : zrow Try.prog 21 = some (.raw [.v (.int .i32 0)]) := by kernel_rfl
theorem ty21 : ty Try.prog 21 = some (.i .i32) := by kernel_rfl
theorem to21 : tyOf Try.prog 1 21 = some (.i .i32) := by kernel_rfl
theorem tsz22 : tsz Try.prog 22 = some 1 := by kernel_rfl
theorem tq22 : tq Try.prog 22 = some (1, 24, some 1) := by kernel_rfl
theorem zrow22 : zrow Try.prog 22 = some (.raw [.v (.slice none 0 0)]) := by kernel_rfl
theorem ty22 : ty Try.prog 22 = some (.sl (.pr (.i .i64) (.pr (.i .u64) (.pr (.i .u64) (.pr (.i .i64) (.pr (.i .i64) (.bo))))))) := by kernel_rfl
theorem sos22 : slOrStr Try.prog 22 = true := by kernel_rfl
theorem to22 : tyOf Try.prog 1 22 = none := by kernel_rfl
theorem tsz23 : tsz Try.prog 23 = some 1 := by kernel_rfl
theorem tq23 : tq Try.prog 23 = some (1, 24, some 1) := by kernel_rfl
theorem zrow23 : zrow Try.prog 23 = some (.raw [.v (.slice none 0 0)]) := by kernel_rfl
theorem ty23 : ty Try.prog 23 = some (.sl (.i .u64)) := by kernel_rfl
theorem sos23 : slOrStr Try.prog 23 = true := by kernel_rfl
theorem to23 : tyOf Try.prog 1 23 = none := by kernel_rfl
theorem tsz24 : tsz Try.prog 24 = some 1 := by kernel_rfl
theorem tq24 : tq Try.prog 24 = some (1, 8, some 1) := by kernel_rfl
theorem zrow24 : zrow Try.prog 24 = some (.raw [.v .nilFunc]) := by kernel_rfl
theorem ty24 : ty Try.prog 24 = none := by kernel_rfl
theorem tsz25 : tsz Try.prog 25 = some 1 := by kernel_rfl
theorem tq25 : tq Try.prog 25 = some (1, 24, some 1) := by kernel_rfl
theorem zrow25 : zrow Try.prog 25 = some (.raw [.v (.slice none 0 0)]) := by kernel_rfl
theorem ty25 : ty Try.prog 25 = some (.sl (.i .i64)) := by kernel_rfl
theorem sos25 : slOrStr Try.prog 25 = true := by kernel_rfl
theorem to25 : tyOf Try.prog 1 25 = none := by kernel_rfl
theorem tsz26 : tsz Try.prog 26 = some 1 := by kernel_rfl
theorem tq26 : tq Try.prog 26 = some (1, 8, some 1) := by kernel_rfl
theorem zrow26 : zrow Try.prog 26 = some (.raw [.v .nilFunc]) := by kernel_rfl
theorem ty26 : ty Try.prog 26 = none := by kernel_rfl
theorem tsz27 : tsz Try.prog 27 = some 1 := by kernel_rfl
theorem tq27 : tq Try.prog 27 = some (1, 24, some 1) := by kernel_rfl
theorem zrow27 : zrow Try.prog 27 = some (.raw [.v (.slice none 0 0)]) := by kernel_rfl
theorem ty27 : ty Try.prog 27 = some (.sl (.pr (.i .i64) (.pr (.i .u64) (.pr (.i .u64) (.pr (.i .i64) (.pr (.i .i64) (.bo))))))) := by kernel_rfl
theorem sos27 : slOrStr Try.prog 27 = true := by kernel_rfl
theorem to27 : tyOf Try.prog 1 27 = none := by kernel_rfl
theorem tsz28 : tsz Try.prog 28 = some 1 := by kernel_rfl
theorem tq28 : tq Try.prog 28 = some (1, 8, some 1) := by kernel_rfl
theorem zrow28 : zrow Try.prog 28 = some (.raw [.v .nilFunc]) := by kernel_rfl
theorem ty28 : ty Try.prog 28 = none := by kernel_rfl
theorem tsz29 : tsz Try.prog 29 = some 1 := by kernel_rfl
theorem tq29 : tq Try.prog 29 = some (1, 8, some 1) := by kernel_rfl
theorem zrow29 : zrow Try.prog 29 = some (.raw [.v .nilFunc]) := by kernel_rfl
theorem ty29 : ty Try.prog 29 = none := by kernel_rfl
theorem tsz30 : tsz Try.prog 30 = some 1 := by kernel_rfl
theorem tq30 : tq Try.prog 30 = some (1, 8, some 1) := by kernel_rfl
theorem zrow30 : zrow Try.prog 30 = some (.raw [.v .nilFunc]) := by kernel_rfl
theorem ty30 : ty Try.prog 30 = none := by kernel_rfl
theorem tsz31 : tsz Try.prog 31 = some 1 := by kernel_rfl
theorem tq31 : tq Try.prog 31 = some (1, 8, some 1) := by kernel_rfl
theorem zrow31 : zrow Try.prog 31 = some (.raw [.v (.int .u64 0)]) := by kernel_rfl
theorem ty31 : ty Try.prog 31 = some (.i .u64) := by kernel_rfl
theorem to31 : tyOf Try.prog 1 31 = some (.i .u64) := by kernel_rfl
theorem tsz32 : tsz Try.prog 32 = some 6 := by kernel_rfl
theorem tq32 : tq Try.prog 32 = some (6, 48, some 6) := by kernel_rfl
theorem zrow32 : zrow Try.prog 32 = some (.raw [.v (.int .i64 0), .v (.int .u64 0), .v (.int .u64 0), .v (.int .i64 0), .v (.int .i64 0), .v (.bool false)]) := by kernel_rfl
theorem zcells32 : zcells Try.prog 32 = some [.v (.int .i64 0), .v (.int .u64 0), .v (.int .u64 0), .v (.int .i64 0), .v (.int .i64 0), .v (.bool false)] := by kernel_rfl
theorem ty32 : ty Try.prog 32 = some (.pr (.i .i64) (.pr (.i .u64) (.pr (.i .u64) (.pr (.i .i64) (.pr (.i .i64) (.bo)))))) := by kernel_rfl
theorem eqf32 : eqfs Try.prog 32 = some [(0, .i .i64), (1, .i .u64), (2, .i .u64), (3, .i .i64), (4, .i .i64), (5, .bo)] := by kernel_rfl
theorem to32 : tyOf Try.prog 1 32 = none := by kernel_rfl
theorem fo32_0 : fo Try.prog 32 0 = some (0, 3) := by kernel_rfl
theorem fo32_1 : fo Try.prog 32 1 = some (1, 31) := by kernel_rfl
theorem fo32_2 : fo Try.prog 32 2 = some (2, 31) := by kernel_rfl
theorem fo32_3 : fo Try.prog 32 3 = some (3, 3) := by kernel_rfl
theorem fo32_4 : fo Try.prog 32 4 = some (4, 3) := by kernel_rfl
theorem fo32_5 : fo Try.prog 32 5 = some (5, 4) := by kernel_rfl
theorem stq32 : stq Try.prog 32 = some [(0, 1), (1, 1), (2, 1), (3, 1), (4, 1), (5, 1)] := by kernel_rfl
theorem tsz33 : tsz Try.prog 33 = some 6 := by kernel_rfl
theorem tq33 : tq Try.prog 33 = some (6, 48, some 6) := by kernel_rfl
theorem zrow33 : zrow Try.prog 33 = some (.raw [.v (.int .i64 0), .v (.int .u64 0), .v (.int .u64 0), .v (.int .i64 0), .v (.int .i64 0), .v (.bool false)]) := by kernel_rfl
theorem zcells33 : zcells Try.prog 33 = some [.v (.int .i64 0), .v (.int .u64 0), .v (.int .u64 0), .v (.int .i64 0), .v (.int .i64 0), .v (.bool false)] := by kernel_rfl
theorem ty33 : ty Try.prog 33 = some (.pr (.i .i64) (.pr (.i .u64) (.pr (.i .u64) (.pr (.i .i64) (.pr (.i .i64) (.bo)))))) := by kernel_rfl
theorem eqf33 : eqfs Try.prog 33 = some [(0, .i .i64), (1, .i .u64), (2, .i .u64), (3, .i .i64), (4, .i .i64), (5, .bo)] := by kernel_rfl
theorem to33 : tyOf Try.prog 1 33 = none := by kernel_rfl
theorem fo33_0 : fo Try.prog 33 0 = some (0, 3) := by kernel_rfl
theorem fo33_1 : fo Try.prog 33 1 = some (1, 31) := by kernel_rfl
theorem fo33_2 : fo Try.prog 33 2 = some (2, 31) := by kernel_rfl
theorem fo33_3 : fo Try.prog 33 3 = some (3, 3) := by kernel_rfl
theorem fo33_4 : fo Try.prog 33 4 = some (4, 3) := by kernel_rfl
theorem fo33_5 : fo Try.prog 33 5 = some (5, 4) := by kernel_rfl
theorem stq33 : stq Try.prog 33 = some [(0, 1), (1, 1), (2, 1), (3, 1), (4, 1), (5, 1)] := by kernel_rfl
theorem tsz34 : tsz Try.prog 34 = some 1 := by kernel_rfl
theorem tq34 : tq Try.prog 34 = some (1, 8, some 1) := by kernel_rfl
theorem zrow34 : zrow Try.prog 34 = some (.raw [.v .nilFunc]) := by kernel_rfl
theorem ty34 : ty Try.prog 34 = none := by kernel_rfl
theorem tsz35 : tsz Try.prog 35 = some 1 := by kernel_rfl
theorem tq35 : tq Try.prog 35 = some (1, 24, some 1) := by kernel_rfl
theorem zrow35 : zrow Try.prog 35 = some (.raw [.v (.slice none 0 0)]) := by kernel_rfl
theorem ty35 : ty Try.prog 35 = some (.sl (.i .u32)) := by kernel_rfl
theorem sos35 : slOrStr Try.prog 35 = true := by kernel_rfl
theorem to35 : tyOf Try.prog 1 35 = none := by kernel_rfl
theorem tsz36 : tsz Try.prog 36 = some 1 := by kernel_rfl
theorem tq36 : tq Try.prog 36 = some (1, 24, some 1) := by kernel_rfl
theorem zrow36 : zrow Try.prog 36 = some (.raw [.v (.slice none 0 0)]) := by kernel_rfl
theorem ty36 : ty Try.prog 36 = some (.sl (.i .u8)) := by kernel_rfl
theorem sos36 : slOrStr Try.prog 36 = true := by kernel_rfl
theorem to36 : tyOf Try.prog 1 36 = none := by kernel_rfl
theorem tsz37 : tsz Try.prog 37 = some 1 := by kernel_rfl
theorem tq37 : tq Try.prog 37 = some (1, 4, some 1) := by kernel_rfl
theorem zrow37 : zrow Try.prog 37 = some (.raw [.v (.int .u32 0)]) := by kernel_rfl
theorem ty37 : ty Try.prog 37 = some (.i .u32) := by kernel_rfl
theorem to37 : tyOf Try.prog 1 37 = some (.i .u32) := by kernel_rfl
theorem tsz38 : tsz Try.prog 38 = some 6 := by kernel_rfl
theorem tq38 : tq Try.prog 38 = some (6, 48, some 6) := by kernel_rfl
theorem zrow38 : zrow Try.prog 38 = some (.raw [.v (.int .i64 0), .v (.int .u64 0), .v (.int .u64 0), .v (.int .i64 0), .v (.int .i64 0), .v (.bool false)]) := by kernel_rfl
theorem zcells38 : zcells Try.prog 38 = some [.v (.int .i64 0), .v (.int .u64 0), .v (.int .u64 0), .v (.int .i64 0), .v (.int .i64 0), .v (.bool false)] := by kernel_rfl
theorem ty38 : ty Try.prog 38 = some (.pr (.i .i64) (.pr (.i .u64) (.pr (.i .u64) (.pr (.i .i64) (.pr (.i .i64) (.bo)))))) := by kernel_rfl
theorem eqf38 : eqfs Try.prog 38 = some [(0, .i .i64), (1, .i .u64), (2, .i .u64), (3, .i .i64), (4, .i .i64), (5, .bo)] := by kernel_rfl
theorem to38 : tyOf Try.prog 1 38 = none := by kernel_rfl
theorem fo38_0 : fo Try.prog 38 0 = some (0, 3) := by kernel_rfl
theorem fo38_1 : fo Try.prog 38 1 = some (1, 31) := by kernel_rfl
theorem fo38_2 : fo Try.prog 38 2 = some (2, 31) := by kernel_rfl
theorem fo38_3 : fo Try.prog 38 3 = some (3, 3) := by kernel_rfl
theorem fo38_4 : fo Try.prog 38 4 = some (4, 3) := by kernel_rfl
theorem fo38_5 : fo Try.prog 38 5 = some (5, 4) := by kernel_rfl
theorem stq38 : stq Try.prog 38 = some [(0, 1), (1, 1), (2, 1), (3, 1), (4, 1), (5, 1)] := by kernel_rfl
theorem tsz39 : tsz Try.prog 39 = some 1 := by kernel_rfl
theorem tq39 : tq Try.prog 39 = some (1, 8, some 1) := by kernel_rfl
theorem zrow39 : zrow Try.prog 39 = some (.raw [.v .nilFunc]) := by kernel_rfl
theorem ty39 : ty Try.prog 39 = none := by kernel_rfl
theorem tsz40 : tsz Try.prog 40 = some 1 := by kernel_rfl
theorem tq40 : tq Try.prog 40 = some (1, 24, some 1) := by kernel_rfl
theorem zrow40 : zrow Try.prog 40 = some (.raw [.v (.slice none 0 0)]) := by kernel_rfl
theorem ty40 : ty Try.prog 40 = some (.sl (.pr (.pr (.i .i64) (.pr (.i .u64) (.pr (.i .u64) (.pr (.i .u64) (.sl (.i .u8)))))) (.pr (.ar 32 (.i .u8)) (.pr (.i .i64) (.i .i64))))) := by kernel_rfl
theorem sos40 : slOrStr Try.prog 40 = true := by kernel_rfl
theorem to40 : tyOf Try.prog 1 40 = none := by kernel_rfl
theorem tsz41 : tsz Try.prog 41 = some 1 := by kernel_rfl
theorem tq41 : tq Try.prog 41 = some (1, 24, some 1) := by kernel_rfl
theorem zrow41 : zrow Try.prog 41 = some (.raw [.v (.slice none 0 0)]) := by kernel_rfl
theorem ty41 : ty Try.prog 41 = some (.sl (.bo)) := by kernel_rfl
theorem sos41 : slOrStr Try.prog 41 = true := by kernel_rfl
theorem to41 : tyOf Try.prog 1 41 = none := by kernel_rfl
theorem tsz42 : tsz Try.prog 42 = some 5 := by kernel_rfl
theorem tq42 : tq Try.prog 42 = some (5, 56, some 5) := by kernel_rfl
theorem zrow42 : zrow Try.prog 42 = some (.raw [.v (.int .i64 0), .v (.int .u64 0), .v (.int .u64 0), .v (.int .u64 0), .v (.slice none 0 0)]) := by kernel_rfl
theorem zcells42 : zcells Try.prog 42 = some [.v (.int .i64 0), .v (.int .u64 0), .v (.int .u64 0), .v (.int .u64 0), .v (.slice none 0 0)] := by kernel_rfl
theorem ty42 : ty Try.prog 42 = some (.pr (.i .i64) (.pr (.i .u64) (.pr (.i .u64) (.pr (.i .u64) (.sl (.i .u8)))))) := by kernel_rfl
theorem to42 : tyOf Try.prog 1 42 = none := by kernel_rfl
theorem fo42_0 : fo Try.prog 42 0 = some (0, 3) := by kernel_rfl
theorem fo42_1 : fo Try.prog 42 1 = some (1, 31) := by kernel_rfl
theorem fo42_2 : fo Try.prog 42 2 = some (2, 31) := by kernel_rfl
theorem fo42_3 : fo Try.prog 42 3 = some (3, 31) := by kernel_rfl
theorem fo42_4 : fo Try.prog 42 4 = some (4, 36) := by kernel_rfl
theorem stq42 : stq Try.prog 42 = some [(0, 1), (1, 1), (2, 1), (3, 1), (4, 1)] := by kernel_rfl
theorem tsz43 : tsz Try.prog 43 = some 5 := by kernel_rfl
theorem tq43 : tq Try.prog 43 = some (5, 56, some 5) := by kernel_rfl
theorem zrow43 : zrow Try.prog 43 = some (.raw [.v (.int .i64 0), .v (.int .u64 0), .v (.int .u64 0), .v (.int .u64 0), .v (.slice none 0 0)]) := by kernel_rfl
theorem zcells43 : zcells Try.prog 43 = some [.v (.int .i64 0), .v (.int .u64 0), .v (.int .u64 0), .v (.int .u64 0), .v (.slice none 0 0)] := by kernel_rfl
theorem ty43 : ty Try.prog 43 = some (.pr (.i .i64) (.pr (.i .u64) (.pr (.i .u64) (.pr (.i .u64) (.sl (.i .u8)))))) := by kernel_rfl
theorem to43 : tyOf Try.prog 1 43 = none := by kernel_rfl
theorem fo43_0 : fo Try.prog 43 0 = some (0, 3) := by kernel_rfl
theorem fo43_1 : fo Try.prog 43 1 = some (1, 31) := by kernel_rfl
theorem fo43_2 : fo Try.prog 43 2 = some (2, 31) := by kernel_rfl
theorem fo43_3 : fo Try.prog 43 3 = some (3, 31) := by kernel_rfl
theorem fo43_4 : fo Try.prog 43 4 = some (4, 36) := by kernel_rfl
theorem stq43 : stq Try.prog 43 = some [(0, 1), (1, 1), (2, 1), (3, 1), (4, 1)] := by kernel_rfl
theorem tsz44 : tsz Try.prog 44 = some 32 := by kernel_rfl
theorem tq44 : tq Try.prog 44 = some (32, 32, some 32) := by kernel_rfl
theorem zrow44 : zrow Try.prog 44 = some (.ty (.i .u8) (List.replicate 32 0)) := by kernel_rfl
theorem zcells44 : zcells Try.prog 44 = some [.v (.int .u8 0), .v (.int .u8 0), .v (.int .u8 0), .v (.int .u8 0), .v (.int .u8 0), .v (.int .u8 0), .v (.int .u8 0), .v (.int .u8 0), .v (.int .u8 0), .v (.int .u8 0), .v (.int .u8 0), .v (.int .u8 0), .v (.int .u8 0), .v (.int .u8 0), .v (.int .u8 0), .v (.int .u8 0), .v (.int .u8 0), .v (.int .u8 0), .v (.int .u8 0), .v (.int .u8 0), .v (.int .u8 0), .v (.int .u8 0), .v (.int .u8 0), .v (.int .u8 0), .v (.int .u8 0), .v (.int .u8 0), .v (.int .u8 0), .v (.int .u8 0), .v (.int .u8 0), .v (.int .u8 0), .v (.int .u8 0), .v (.int .u8 0)] := by kernel_rfl
theorem ty44 : ty Try.prog 44 = some (.ar 32 (.i .u8)) := by kernel_rfl
theorem eqg44 : eqg Try.prog 44 = false := by kernel_rfl
theorem to44 : tyOf Try.prog 1 44 = none := by kernel_rfl
theorem tsz45 : tsz Try.prog 45 = some 32 := by kernel_rfl
theorem tq45 : tq Try.prog 45 = some (32, 32, some 32) := by kernel_rfl
theorem zrow45 : zrow Try.prog 45 = some (.ty (.i .u8) (List.replicate 32 0)) := by kernel_rfl
theorem zcells45 : zcells Try.prog 45 = some [.v (.int .u8 0), .v (.int .u8 0), .v (.int .u8 0), .v (.int .u8 0), .v (.int .u8 0), .v (.int .u8 0), .v (.int .u8 0), .v (.int .u8 0), .v (.int .u8 0), .v (.int .u8 0), .v (.int .u8 0), .v (.int .u8 0), .v (.int .u8 0), .v (.int .u8 0), .v (.int .u8 0), .v (.int .u8 0), .v (.int .u8 0), .v (.int .u8 0), .v (.int .u8 0), .v (.int .u8 0), .v (.int .u8 0), .v (.int .u8 0), .v (.int .u8 0), .v (.int .u8 0), .v (.int .u8 0), .v (.int .u8 0), .v (.int .u8 0), .v (.int .u8 0), .v (.int .u8 0), .v (.int .u8 0), .v (.int .u8 0), .v (.int .u8 0)] := by kernel_rfl
theorem ty45 : ty Try.prog 45 = some (.ar 32 (.i .u8)) := by kernel_rfl
theorem eqg45 : eqg Try.prog 45 = false := by kernel_rfl
theorem to45 : tyOf Try.prog 1 45 = none := by kernel_rfl
theorem tsz46 : tsz Try.prog 46 = some 39 := by kernel_rfl
theorem tq46 : tq Try.prog 46 = some (39, 104, some 39) := by kernel_rfl
theorem zrow46 : zrow Try.prog 46 = some (.raw [.v (.int .i64 0), .v (.int .u64 0), .v (.int .u64 0), .v (.int .u64 0), .v (.slice none 0 0), .v (.int .u8 0), .v (.int .u8 0), .v (.int .u8 0), .v (.int .u8 0), .v (.int .u8 0), .v (.int .u8 0), .v (.int .u8 0), .v (.int .u8 0), .v (.int .u8 0), .v (.int .u8 0), .v (.int .u8 0), .v (.int .u8 0), .v (.int .u8 0), .v (.int .u8 0), .v (.int .u8 0), .v (.int .u8 0), .v (.int .u8 0), .v (.int .u8 0), .v (.int .u8 0), .v (.int .u8 0), .v (.int .u8 0), .v (.int .u8 0), .v (.int .u8 0), .v (.int .u8 0), .v (.int .u8 0), .v (.int .u8 0), .v (.int .u8 0), .v (.int .u8 0), .v (.int .u8 0), .v (.int .u8 0), .v (.int .u8 0), .v (.int .u8 0), .v (.int .i64 0), .v (.int .i64 0)]) := by kernel_rfl
theorem zcells46 : zcells Try.prog 46 = some [.v (.int .i64 0), .v (.int .u64 0), .v (.int .u64 0), .v (.int .u64 0), .v (.slice none 0 0), .v (.int .u8 0), .v (.int .u8 0), .v (.int .u8 0), .v (.int .u8 0), .v (.int .u8 0), .v (.int .u8 0), .v (.int .u8 0), .v (.int .u8 0), .v (.int .u8 0), .v (.int .u8 0), .v (.int .u8 0), .v (.int .u8 0), .v (.int .u8 0), .v (.int .u8 0), .v (.int .u8 0), .v (.int .u8 0), .v (.int .u8 0), .v (.int .u8 0), .v (.int .u8 0), .v (.int .u8 0), .v (.int .u8 0), .v (.int .u8 0), .v (.int .u8 0), .v (.int .u8 0), .v (.int .u8 0), .v (.int .u8 0), .v (.int .u8 0), .v (.int .u8 0), .v (.int .u8 0), .v (.int .u8 0), .v (.int .u8 0), .v (.int .u8 0), .v (.int .i64 0), .v (.int .i64 0)] := by kernel_rfl
theorem ty46 : ty Try.prog 46 = some (.pr (.pr (.i .i64) (.pr (.i .u64) (.pr (.i .u64) (.pr (.i .u64) (.sl (.i .u8)))))) (.pr (.ar 32 (.i .u8)) (.pr (.i .i64) (.i .i64)))) := by kernel_rfl
theorem to46 : tyOf Try.prog 1 46 = none := by kernel_rfl
theorem fo46_0 : fo Try.prog 46 0 = some (0, 43) := by kernel_rfl
theorem fo46_1 : fo Try.prog 46 1 = some (5, 45) := by kernel_rfl
theorem fo46_2 : fo Try.prog 46 2 = some (37, 3) := by kernel_rfl
theorem fo46_3 : fo Try.prog 46 3 = some (38, 3) := by kernel_rfl
theorem stq46 : stq Try.prog 46 = some [(0, 5), (5, 32), (37, 1), (38, 1)] := by kernel_rfl
theorem tsz47 : tsz Try.prog 47 = some 39 := by kernel_rfl
theorem tq47 : tq Try.prog 47 = some (39, 104, some 39) := by kernel_rfl
theorem zrow47 : zrow Try.prog 47 = some (.raw [.v (.int .i64 0), .v (.int .u64 0), .v (.int .u64 0), .v (.int .u64 0), .v (.slice none 0 0), .v (.int .u8 0), .v (.int .u8 0), .v (.int .u8 0), .v (.int .u8 0), .v (.int .u8 0), .v (.int .u8 0), .v (.int .u8 0), .v (.int .u8 0), .v (.int .u8 0), .v (.int .u8 0), .v (.int .u8 0), .v (.int .u8 0), .v (.int .u8 0), .v (.int .u8 0), .v (.int .u8 0), .v (.int .u8 0), .v (.int .u8 0), .v (.int .u8 0), .v (.int .u8 0), .v (.int .u8 0), .v (.int .u8 0), .v (.int .u8 0), .v (.int .u8 0), .v (.int .u8 0), .v (.int .u8 0), .v (.int .u8 0), .v (.int .u8 0), .v (.int .u8 0), .v (.int .u8 0), .v (.int .u8 0), .v (.int .u8 0), .v (.int .u8 0), .v (.int .i64 0), .v (.int .i64 0)]) := by kernel_rfl
theorem zcells47 : zcells Try.prog 47 = some [.v (.int .i64 0), .v (.int .u64 0), .v (.int .u64 0), .v (.int .u64 0), .v (.slice none 0 0), .v (.int .u8 0), .v (.int .u8 0), .v (.int .u8 0), .v (.int .u8 0), .v (.int .u8 0), .v (.int .u8 0), .v (.int .u8 0), .v (.int .u8 0), .v (.int .u8 0), .v (.int .u8 0), .v (.int .u8 0), .v (.int .u8 0), .v (.int .u8 0), .v (.int .u8 0), .v (.int .u8 0), .v (.int .u8 0), .v (.int .u8 0), .v (.int .u8 0), .v (.int .u8 0), .v (.int .u8 0), .v (.int .u8 0), .v (.int .u8 0), .v (.int .u8 0), .v (.int .u8 0), .v (.int .u8 0), .v (.int .u8 0), .v (.int .u8 0), .v (.int .u8 0), .v (.int .u8 0), .v (.int .u8 0), .v (.int .u8 0), .v (.int .u8 0), .v (.int .i64 0), .v (.int .i64 0)] := by kernel_rfl
theorem ty47 : ty Try.prog 47 = some (.pr (.pr (.i .i64) (.pr (.i .u64) (.pr (.i .u64) (.pr (.i .u64) (.sl (.i .u8)))))) (.pr (.ar 32 (.i .u8)) (.pr (.i .i64) (.i .i64)))) := by kernel_rfl
theorem to47 : tyOf Try.prog 1 47 = none := by kernel_rfl
theorem fo47_0 : fo Try.prog 47 0 = some (0, 43) := by kernel_rfl
theorem fo47_1 : fo Try.prog 47 1 = some (5, 45) := by kernel_rfl
theorem fo47_2 : fo Try.prog 47 2 = some (37, 3) := by kernel_rfl
theorem fo47_3 : fo Try.prog 47 3 = some (38, 3) := by kernel_rfl
theorem stq47 : stq Try.prog 47 = some [(0, 5), (5, 32), (37, 1), (38, 1)] := by kernel_rfl
theorem tsz48 : tsz Try.prog 48 = some 1 := by kernel_rfl
theorem tq48 : tq Try.prog 48 = some (1, 8, some 1) := by kernel_rfl
theorem zrow48 : zrow Try.prog 48 = some (.raw [.v .nilFunc]) := by kernel_rfl
theorem ty48 : ty Try.prog 48 = none := by kernel_rfl
theorem tsz49 : tsz Try.prog 49 = some 1 := by kernel_rfl
theorem tq49 : tq Try.prog 49 = some (1, 8, some 1) := by kernel_rfl
theorem zrow49 : zrow Try.prog 49 = some (.raw [.v .nilFunc]) := by kernel_rfl
theorem ty49 : ty Try.prog 49 = none := by kernel_rfl
theorem tsz50 : tsz Try.prog 50 = some 1 := by kernel_rfl
theorem tq50 : tq Try.prog 50 = some (1, 8, some 1) := by kernel_rfl
theorem zrow50 : zrow Try.prog 50 = some (.raw [.v .nilFunc]) := by kernel_rfl
theorem ty50 : ty Try.prog 50 = none := by kernel_rfl
theorem tsz51 : tsz Try.prog 51 = some 1 := by kernel_rfl
theorem tq51 : tq Try.prog 51 = some (1, 8, some 1) := by kernel_rfl
theorem zrow51 : zrow Try.prog 51 = some (.raw [.v (.pointer none)]) := by kernel_rfl
theorem ty51 : ty Try.prog 51 = none := by kernel_rfl
theorem to51 : tyOf Try.prog 1 51 = none := by kernel_rfl
theorem tsz52 : tsz Try.prog 52 = some 1 := by kernel_rfl
theorem tq52 : tq Try.prog 52 = some (1, 8, some 1) := by kernel_rfl
theorem zrow52 : zrow Try.prog 52 = some (.raw [.v .nilFunc]) := by kernel_rfl
theorem ty52 : ty Try.prog 52 = none := by kernel_rfl
theorem tsz53 : tsz Try.prog 53 = some 1 := by kernel_rfl
theorem tq53 : tq Try.prog 53 = some (1, 8, some 1) := by kernel_rfl
theorem zrow53 : zrow Try.prog 53 = some (.raw [.v .nilFunc]) := by kernel_rfl
theorem ty53 : ty Try.prog 53 = none := by kernel_rfl
theorem tsz54 : tsz Try.prog 54 = some 1 := by kernel_rfl
theorem tq54 : tq Try.prog 54 = some (1, 8, some 1) := by kernel_rfl
theorem zrow54 : zrow Try.prog 54 = some (.raw [.v .nilFunc]) := by kernel_rfl
theorem ty54 : ty Try.prog 54 = none := by kernel_rfl
theorem tsz55 : tsz Try.prog 55 = some 1 := by kernel_rfl
theorem tq55 : tq Try.prog 55 = some (1, 8, some 1) := by kernel_rfl
theorem zrow55 : zrow Try.prog 55 = some (.raw [.v .nilFunc]) := by kernel_rfl
theorem ty55 : ty Try.prog 55 = none := by kernel_rfl
theorem tsz56 : tsz Try.prog 56 = some 1 := by kernel_rfl
theorem tq56 : tq Try.prog 56 = some (1, 8, some 1) := by kernel_rfl
theorem zrow56 : zrow Try.prog 56 = some (.raw [.v .nilFunc]) := by kernel_rfl
theorem ty56 : ty Try.prog 56 = none := by kernel_rfl
theorem tsz57 : tsz Try.prog 57 = some 1 := by kernel_rfl
theorem tq57 : tq Try.prog 57 = some (1, 8, some 1) := by kernel_rfl
theorem zrow57 : zrow Try.prog 57 = some (.raw [.v .nilFunc]) := by kernel_rfl
theorem ty57 : ty Try.prog 57 = none := by kernel_rfl
theorem tsz58 : tsz Try.prog 58 = some 1 := by kernel_rfl
theorem tq58 : tq Try.prog 58 = some (1, 8, some 1) := by kernel_rfl
theorem zrow58 : zrow Try.prog 58 = some (.raw [.v .nilFunc]) := by kernel_rfl
theorem ty58 : ty Try.prog 58 = none := by kernel_rfl
theorem tsz59 : tsz Try.prog 59 = some 4 := by kernel_rfl
theorem tq59 : tq Try.prog 59 = some (4, 80, some 4) := by kernel_rfl
theorem zrow59 : zrow Try.prog 59 = some (.raw [.v (.slice none 0 0), .v (.slice none 0 0), .v (.int .i64 0), .v (.slice none 0 0)]) := by kernel_rfl
theorem zcells59 : zcells Try.prog 59 = some [.v (.slice none 0 0), .v (.slice none 0 0), .v (.int .i64 0), .v (.slice none 0 0)] := by kernel_rfl
theorem ty59 : ty Try.prog 59 = some (.pr (.sl (.pr (.i .i64) (.pr (.i .u64) (.pr (.i .u64) (.pr (.i .i64) (.pr (.i .i64) (.bo))))))) (.pr (.sl (.i .u64)) (.pr (.i .i64) (.sl (.bo))))) := by kernel_rfl
theorem to59 : tyOf Try.prog 1 59 = none := by kernel_rfl
theorem fo59_0 : fo Try.prog 59 0 = some (0, 27) := by kernel_rfl
theorem fo59_1 : fo Try.prog 59 1 = some (1, 23) := by kernel_rfl
theorem fo59_2 : fo Try.prog 59 2 = some (2, 3) := by kernel_rfl
theorem fo59_3 : fo Try.prog 59 3 = some (3, 41) := by kernel_rfl
theorem stq59 : stq Try.prog 59 = some [(0, 1), (1, 1), (2, 1), (3, 1)] := by kernel_rfl
theorem tsz60 : tsz Try.prog 60 = some 4 := by kernel_rfl
theorem tq60 : tq Try.prog 60 = some (4, 80, some 4) := by kernel_rfl
theorem zrow60 : zrow Try.prog 60 = some (.raw [.v (.slice none 0 0), .v (.slice none 0 0), .v (.int .i64 0), .v (.slice none 0 0)]) := by kernel_rfl
theorem zcells60 : zcells Try.prog 60 = some [.v (.slice none 0 0), .v (.slice none 0 0), .v (.int .i64 0), .v (.slice none 0 0)] := by kernel_rfl
theorem ty60 : ty Try.prog 60 = some (.pr (.sl (.pr (.i .i64) (.pr (.i .u64) (.pr (.i .u64) (.pr (.i .i64) (.pr (.i .i64) (.bo))))))) (.pr (.sl (.i .u64)) (.pr (.i .i64) (.sl (.bo))))) := by kernel_rfl
theorem to60 : tyOf Try.prog 1 60 = none := by kernel_rfl
theorem fo60_0 : fo Try.prog 60 0 = some (0, 27) := by kernel_rfl
theorem fo60_1 : fo Try.prog 60 1 = some (1, 23) := by kernel_rfl
theorem fo60_2 : fo Try.prog 60 2 = some (2, 3) := by kernel_rfl
theorem fo60_3 : fo Try.prog 60 3 = some (3, 41) := by kernel_rfl
theorem stq60 : stq Try.prog 60 = some [(0, 1), (1, 1), (2, 1), (3, 1)] := by kernel_rfl
theorem tsz61 : tsz Try.prog 61 = some 1 := by kernel_rfl
theorem tq61 : tq Try.prog 61 = some (1, 8, some 1) := by kernel_rfl
theorem zrow61 : zrow Try.prog 61 = some (.raw [.v .nilFunc]) := by kernel_rfl
theorem ty61 : ty Try.prog 61 = none := by kernel_rfl
theorem tsz62 : tsz Try.prog 62 = some 1 := by kernel_rfl
theorem tq62 : tq Try.prog 62 = some (1, 8, some 1) := by kernel_rfl
theorem zrow62 : zrow Try.prog 62 = some (.raw [.v .nilFunc]) := by kernel_rfl
theorem ty62 : ty Try.prog 62 = none := by kernel_rfl
theorem tsz63 : tsz Try.prog 63 = some 1 := by kernel_rfl
theorem tq63 : tq Try.prog 63 = some (1, 8, some 1) := by kernel_rfl
theorem zrow63 : zrow Try.prog 63 = some (.raw [.v .nilFunc]) := by kernel_rfl
theorem ty63 : ty Try.prog 63 = none := by kernel_rfl
theorem tsz64 : tsz Try.prog 64 = some 1 := by kernel_rfl
theorem tq64 : tq Try.prog 64 = some (1, 8, some 1) := by kernel_rfl
theorem zrow64 : zrow Try.prog 64 = some (.raw [.v .nilFunc]) := by kernel_rfl
theorem ty64 : ty Try.prog 64 = none := by kernel_rfl
theorem tsz65 : tsz Try.prog 65 = some 2 := by kernel_rfl
theorem tq65 : tq Try.prog 65 = some (2, 16, some 2) := by kernel_rfl
theorem zrow65 : zrow Try.prog 65 = some (.raw [.v (.int .u64 0), .v (.int .u64 0)]) := by kernel_rfl
theorem zcells65 : zcells Try.prog 65 = some [.v (.int .u64 0), .v (.int .u64 0)] := by kernel_rfl
theorem ty65 : ty Try.prog 65 = some (.pr (.i .u64) (.i .u64)) := by kernel_rfl
theorem eqf65 : eqfs Try.prog 65 = some [(0, .i .u64), (1, .i .u64)] := by kernel_rfl
theorem to65 : tyOf Try.prog 1 65 = none := by kernel_rfl
theorem fo65_0 : fo Try.prog 65 0 = some (0, 31) := by kernel_rfl
theorem fo65_1 : fo Try.prog 65 1 = some (1, 31) := by kernel_rfl
theorem stq65 : stq Try.prog 65 = some [(0, 1), (1, 1)] := by kernel_rfl
theorem tsz66 : tsz Try.prog 66 = some 2 := by kernel_rfl
theorem tq66 : tq Try.prog 66 = some (2, 16, some 2) := by kernel_rfl
theorem zrow66 : zrow Try.prog 66 = some (.raw [.v (.int .u64 0), .v (.int .u64 0)]) := by kernel_rfl
theorem zcells66 : zcells Try.prog 66 = some [.v (.int .u64 0), .v (.int .u64 0)] := by kernel_rfl
theorem ty66 : ty Try.prog 66 = some (.pr (.i .u64) (.i .u64)) := by kernel_rfl
theorem eqf66 : eqfs Try.prog 66 = some [(0, .i .u64), (1, .i .u64)] := by kernel_rfl
theorem to66 : tyOf Try.prog 1 66 = none := by kernel_rfl
theorem fo66_0 : fo Try.prog 66 0 = some (0, 31) := by kernel_rfl
theorem fo66_1 : fo Try.prog 66 1 = some (1, 31) := by kernel_rfl
theorem stq66 : stq Try.prog 66 = some [(0, 1), (1, 1)] := by kernel_rfl
theorem tsz67 : tsz Try.prog 67 = some 1 := by kernel_rfl
theorem tq67 : tq Try.prog 67 = some (1, 8, some 1) := by kernel_rfl
theorem zrow67 : zrow Try.prog 67 = some (.raw [.v .nilFunc]) := by kernel_rfl
theorem ty67 : ty Try.prog 67 = none := by kernel_rfl
theorem tsz68 : tsz Try.prog 68 = some 1 := by kernel_rfl
theorem tq68 : tq Try.prog 68 = some (1, 8, some 1) := by kernel_rfl
theorem zrow68 : zrow Try.prog 68 = some (.raw [.v .nilFunc]) := by kernel_rfl
theorem ty68 : ty Try.prog 68 = none := by kernel_rfl
theorem tsz69 : tsz Try.prog 69 = some 1 := by kernel_rfl
theorem tq69 : tq Try.prog 69 = some (1, 8, some 1) := by kernel_rfl
theorem zrow69 : zrow Try.prog 69 = some (.raw [.v .nilFunc]) := by kernel_rfl
theorem ty69 : ty Try.prog 69 = none := by kernel_rfl
theorem tsz70 : tsz Try.prog 70 = some 1 := by kernel_rfl
theorem tq70 : tq Try.prog 70 = some (1, 8, some 1) := by kernel_rfl
theorem zrow70 : zrow Try.prog 70 = some (.raw [.v (.int .u64 0)]) := by kernel_rfl
theorem ty70 : ty Try.prog 70 = some (.i .u64) := by kernel_rfl
theorem to70 : tyOf Try.prog 1 70 = some (.i .u64) := by kernel_rfl
theorem tsz72 : tsz Try.prog 72 = some 1 := by kernel_rfl
theorem tq72 : tq Try.prog 72 = some (1, 8, some 1) := by kernel_rfl
theorem zrow72 : zrow Try.prog 72 = some (.raw [.v .nilFunc]) := by kernel_rfl
theorem ty72 : ty Try.prog 72 = none := by kernel_rfl
theorem tsz73 : tsz Try.prog 73 = some 1 := by kernel_rfl
theorem tq73 : tq Try.prog 73 = some (1, 8, some 1) := by kernel_rfl
theorem zrow73 : zrow Try.prog 73 = some (.raw [.v .nilFunc]) := by kernel_rfl
theorem ty73 : ty Try.prog 73 = none := by kernel_rfl
theorem tsz74 : tsz Try.prog 74 = some 1 := by kernel_rfl
theorem tq74 : tq Try.prog 74 = some (1, 8, some 1) := by kernel_rfl
theorem zrow74 : zrow Try.prog 74 = some (.raw [.v .nilFunc]) := by kernel_rfl
theorem ty74 : ty Try.prog 74 = none := by kernel_rfl
theorem tsz75 : tsz Try.prog 75 = some 1 := by kernel_rfl
theorem tq75 : tq Try.prog 75 = some (1, 8, some 1) := by kernel_rfl
theorem zrow75 : zrow Try.prog 75 = some (.raw [.v .nilFunc]) := by kernel_rfl
theorem ty75 : ty Try.prog 75 = none := by kernel_rfl
theorem tsz76 : tsz Try.prog 76 = some 4 := by kernel_rfl
theorem tq76 : tq Try.prog 76 = some (4, 40, some 4) := by kernel_rfl
theorem zrow76 : zrow Try.prog 76 = some (.raw [.v (.pointer none), .v (.pointer none), .v (.pointer none), .v (.string ⟨#[]⟩)]) := by kernel_rfl
theorem zcells76 : zcells Try.prog 76 = some [.v (.pointer none), .v (.pointer none), .v (.pointer none), .v (.string ⟨#[]⟩)] := by kernel_rfl
theorem ty76 : ty Try.prog 76 = none := by kernel_rfl
theorem to76 : tyOf Try.prog 1 76 = none := by kernel_rfl
theorem fo76_0 : fo Try.prog 76 0 = some (0, 17) := by kernel_rfl
theorem fo76_1 : fo Try.prog 76 1 = some (1, 17) := by kernel_rfl
theorem fo76_2 : fo Try.prog 76 2 = some (2, 17) := by kernel_rfl
theorem fo76_3 : fo Try.prog 76 3 = some (3, 9) := by kernel_rfl
theorem stq76 : stq Try.prog 76 = some [(0, 1), (1, 1), (2, 1), (3, 1)] := by kernel_rfl
theorem tsz77 : tsz Try.prog 77 = some 4 := by kernel_rfl
theorem tq77 : tq Try.prog 77 = some (4, 40, some 4) := by kernel_rfl
theorem zrow77 : zrow Try.prog 77 = some (.raw [.v (.pointer none), .v (.pointer none), .v (.pointer none), .v (.string ⟨#[]⟩)]) := by kernel_rfl
theorem zcells77 : zcells Try.prog 77 = some [.v (.pointer none), .v (.pointer none), .v (.pointer none), .v (.string ⟨#[]⟩)] := by kernel_rfl
theorem ty77 : ty Try.prog 77 = none := by kernel_rfl
theorem to77 : tyOf Try.prog 1 77 = none := by kernel_rfl
theorem fo77_0 : fo Try.prog 77 0 = some (0, 17) := by kernel_rfl
theorem fo77_1 : fo Try.prog 77 1 = some (1, 17) := by kernel_rfl
theorem fo77_2 : fo Try.prog 77 2 = some (2, 17) := by kernel_rfl
theorem fo77_3 : fo Try.prog 77 3 = some (3, 9) := by kernel_rfl
theorem stq77 : stq Try.prog 77 = some [(0, 1), (1, 1), (2, 1), (3, 1)] := by kernel_rfl
theorem tsz78 : tsz Try.prog 78 = some 0 := by kernel_rfl
theorem tq78 : tq Try.prog 78 = some (0, 0, some 0) := by kernel_rfl
theorem zrow78 : zrow Try.prog 78 = some (.raw []) := by kernel_rfl
theorem zcells78 : zcells Try.prog 78 = some [] := by kernel_rfl
theorem ty78 : ty Try.prog 78 = none := by kernel_rfl
theorem to78 : tyOf Try.prog 1 78 = none := by kernel_rfl
theorem tsz79 : tsz Try.prog 79 = some 0 := by kernel_rfl
theorem tq79 : tq Try.prog 79 = some (0, 0, some 0) := by kernel_rfl
theorem zrow79 : zrow Try.prog 79 = some (.raw []) := by kernel_rfl
theorem zcells79 : zcells Try.prog 79 = some [] := by kernel_rfl
theorem ty79 : ty Try.prog 79 = none := by kernel_rfl
theorem to79 : tyOf Try.prog 1 79 = none := by kernel_rfl
theorem fo79_0 : fo Try.prog 79 0 = some (0, 78) := by kernel_rfl
theorem stq79 : stq Try.prog 79 = some [(0, 0)] := by kernel_rfl
theorem tsz80 : tsz Try.prog 80 = some 0 := by kernel_rfl
theorem tq80 : tq Try.prog 80 = some (0, 0, some 0) := by kernel_rfl
theorem zrow80 : zrow Try.prog 80 = some (.raw []) := by kernel_rfl
theorem zcells80 : zcells Try.prog 80 = some [] := by kernel_rfl
theorem ty80 : ty Try.prog 80 = none := by kernel_rfl
theorem to80 : tyOf Try.prog 1 80 = none := by kernel_rfl
theorem fo80_0 : fo Try.prog 80 0 = some (0, 78) := by kernel_rfl
theorem stq80 : stq Try.prog 80 = some [(0, 0)] := by kernel_rfl
theorem tsz81 : tsz Try.prog 81 = some 1 := by kernel_rfl
theorem tq81 : tq Try.prog 81 = some (1, 8, some 1) := by kernel_rfl
theorem zrow81 : zrow Try.prog 81 = some (.raw [.v .nilFunc]) := by kernel_rfl
theorem ty81 : ty Try.prog 81 = none := by kernel_rfl
theorem tsz82 : tsz Try.prog 82 = some 1 := by kernel_rfl
theorem tq82 : tq Try.prog 82 = some (1, 1, some 1) := by kernel_rfl
theorem zrow82 : zrow Try.prog 82 = some (.raw [.v (.int .u8 0)]) := by kernel_rfl
theorem ty82 : ty Try.prog 82 = some (.i .u8) := by kernel_rfl
theorem to82 : tyOf Try.prog 1 82 = some (.i .u8) := by kernel_rfl
theorem tsz83 : tsz Try.prog 83 = some 1 := by kernel_rfl
theorem tq83 : tq Try.prog 83 = some (1, 1, some 1) := by kernel_rfl
theorem zrow83 : zrow Try.prog 83 = some (.raw [.v (.int .u8 0)]) := by kernel_rfl
theorem ty83 : ty Try.prog 83 = some (.i .u8) := by kernel_rfl
theorem to83 : tyOf Try.prog 1 83 = some (.i .u8) := by kernel_rfl
theorem tsz84 : tsz Try.prog 84 = some 1 := by kernel_rfl
theorem tq84 : tq Try.prog 84 = some (1, 8, some 1) := by kernel_rfl
theorem zrow84 : zrow Try.prog 84 = some (.raw [.v .nilFunc]) := by kernel_rfl
theorem ty84 : ty Try.prog 84 = none := by kernel_rfl
theorem tsz85 : tsz Try.prog 85 = some 1 := by kernel_rfl
theorem tq85 : tq Try.prog 85 = some (1, 8, some 1) := by kernel_rfl
theorem zrow85 : zrow Try.prog 85 = some (.raw [.v (.pointer none)]) := by kernel_rfl
theorem ty85 : ty Try.prog 85 = none := by kernel_rfl
theorem to85 : tyOf Try.prog 1 85 = none := by kernel_rfl
theorem tsz86 : tsz Try.prog 86 = some 1 := by kernel_rfl
theorem tq86 : tq Try.prog 86 = some (1, 4, some 1) := by kernel_rfl
theorem zrow86 : zrow Try.prog 86 = some (.raw [.v (.int .i32 0)]) := by kernel_rfl
theorem ty86 : ty Try.prog 86 = some (.i .i32) := by kernel_rfl
theorem to86 : tyOf Try.prog 1 86 = some (.i .i32) := by kernel_rfl
theorem tsz87 : tsz Try.prog 87 = some 1 := by kernel_rfl
theorem tq87 : tq Try.prog 87 = some (1, 4, some 1) := by kernel_rfl
theorem zrow87 : zrow Try.prog 87 = some (.raw [.v (.int .i32 0)]) := by kernel_rfl
theorem ty87 : ty Try.prog 87 = some (.i .i32) := by kernel_rfl
theorem to87 : tyOf Try.prog 1 87 = some (.i .i32) := by kernel_rfl
theorem tsz88 : tsz Try.prog 88 = some 11 := by kernel_rfl
theorem tq88 : tq Try.prog 88 = some (11, 48, some 11) := by kernel_rfl
theorem zrow88 : zrow Try.prog 88 = some (.raw [.v (.int .u64 0), .v (.int .u64 0), .v (.int .u32 0), .v (.int .u8 0), .v (.int .u8 0), .v (.int .u8 0), .v (.int .u8 0), .v .nilFunc, .v (.pointer none), .v (.int .i32 0), .v (.int .i32 0)]) := by kernel_rfl
theorem zcells88 : zcells Try.prog 88 = some [.v (.int .u64 0), .v (.int .u64 0), .v (.int .u32 0), .v (.int .u8 0), .v (.int .u8 0), .v (.int .u8 0), .v (.int .u8 0), .v .nilFunc, .v (.pointer none), .v (.int .i32 0), .v (.int .i32 0)] := by kernel_rfl
theorem ty88 : ty Try.prog 88 = none := by kernel_rfl
theorem to88 : tyOf Try.prog 1 88 = none := by kernel_rfl
theorem fo88_0 : fo Try.prog 88 0 = some (0, 12) := by kernel_rfl
theorem fo88_1 : fo Try.prog 88 1 = some (1, 12) := by kernel_rfl
theorem fo88_2 : fo Try.prog 88 2 = some (2, 37) := by kernel_rfl
theorem fo88_3 : fo Try.prog 88 3 = some (3, 82) := by kernel_rfl
theorem fo88_4 : fo Try.prog 88 4 = some (4, 5) := by kernel_rfl
theorem fo88_5 : fo Try.prog 88 5 = some (5, 5) := by kernel_rfl
theorem fo88_6 : fo Try.prog 88 6 = some (6, 83) := by kernel_rfl
theorem fo88_7 : fo Try.prog 88 7 = some (7, 84) := by kernel_rfl
theorem fo88_8 : fo Try.prog 88 8 = some (8, 85) := by kernel_rfl
theorem fo88_9 : fo Try.prog 88 9 = some (9, 86) := by kernel_rfl
theorem fo88_10 : fo Try.prog 88 10 = some (10, 87) := by kernel_rfl
theorem stq88 : stq Try.prog 88 = some [(0, 1), (1, 1), (2, 1), (3, 1), (4, 1), (5, 1), (6, 1), (7, 1), (8, 1), (9, 1), (10, 1)] := by kernel_rfl
theorem tsz89 : tsz Try.prog 89 = some 11 := by kernel_rfl
theorem tq89 : tq Try.prog 89 = some (11, 48, some 11) := by kernel_rfl
theorem zrow89 : zrow Try.prog 89 = some (.raw [.v (.int .u64 0), .v (.int .u64 0), .v (.int .u32 0), .v (.int .u8 0), .v (.int .u8 0), .v (.int .u8 0), .v (.int .u8 0), .v .nilFunc, .v (.pointer none), .v (.int .i32 0), .v (.int .i32 0)]) := by kernel_rfl
theorem zcells89 : zcells Try.prog 89 = some [.v (.int .u64 0), .v (.int .u64 0), .v (.int .u32 0), .v (.int .u8 0), .v (.int .u8 0), .v (.int .u8 0), .v (.int .u8 0), .v .nilFunc, .v (.pointer none), .v (.int .i32 0), .v (.int .i32 0)] := by kernel_rfl
theorem ty89 : ty Try.prog 89 = none := by kernel_rfl
theorem to89 : tyOf Try.prog 1 89 = none := by kernel_rfl
theorem fo89_0 : fo Try.prog 89 0 = some (0, 12) := by kernel_rfl
theorem fo89_1 : fo Try.prog 89 1 = some (1, 12) := by kernel_rfl
theorem fo89_2 : fo Try.prog 89 2 = some (2, 37) := by kernel_rfl
theorem fo89_3 : fo Try.prog 89 3 = some (3, 82) := by kernel_rfl
theorem fo89_4 : fo Try.prog 89 4 = some (4, 5) := by kernel_rfl
theorem fo89_5 : fo Try.prog 89 5 = some (5, 5) := by kernel_rfl
theorem fo89_6 : fo Try.prog 89 6 = some (6, 83) := by kernel_rfl
theorem fo89_7 : fo Try.prog 89 7 = some (7, 84) := by kernel_rfl
theorem fo89_8 : fo Try.prog 89 8 = some (8, 85) := by kernel_rfl
theorem fo89_9 : fo Try.prog 89 9 = some (9, 86) := by kernel_rfl
theorem fo89_10 : fo Try.prog 89 10 = some (10, 87) := by kernel_rfl
theorem stq89 : stq Try.prog 89 = some [(0, 1), (1, 1), (2, 1), (3, 1), (4, 1), (5, 1), (6, 1), (7, 1), (8, 1), (9, 1), (10, 1)] := by kernel_rfl
attribute [go_sem] tsz1 tq1 zrow1 ty1 tsz2 tq2 zrow2 ty2 to2 tsz3 tq3 zrow3 ty3 to3 tsz4 tq4 zrow4 ty4 to4 tsz5 tq5 zrow5 ty5 to5 tsz6 tq6 zrow6 ty6 to6 tsz7 tq7 zrow7 zcells7 ty7 eqf7 to7 fo7_0 fo7_1 fo7_2 fo7_3 stq7 tsz8 tq8 zrow8 zcells8 ty8 eqf8 to8 fo8_0 fo8_1 fo8_2 fo8_3 stq8 tsz9 tq9 zrow9 ty9 sos9 to9 tsz10 tq10 zrow10 ty10 sos10 to10 tsz11 tq11 zrow11 ty11 sos11 to11 tsz12 tq12 zrow12 ty12 to12 tsz13 tq13 zrow13 zcells13 ty13 to13 fo13_0 fo13_1 stq13 tsz14 tq14 zrow14 zcells14 ty14 to14 fo14_0 fo14_1 stq14 tsz15 tq15 zrow15 ty15 to15 tsz16 tq16 zrow16 ty16 to16 tsz17 tq17 zrow17 ty17 to17 tsz18 tq18 zrow18 zcells18 ty18 to18 fo18_0 stq18 tsz19 tq19 zrow19 zcells19 ty19 to19 fo19_0 stq19 tsz21 tq21 zrow21 ty21 to21 tsz22 tq22 zrow22 ty22 sos22 to22 tsz23 tq23 zrow23 ty23 sos23 to23 tsz24 tq24 zrow24 ty24 tsz25 tq25 zrow25 ty25 sos25 to25 tsz26 tq26 zrow26 ty26 tsz27 tq27 zrow27 ty27 sos27 to27 tsz28 tq28 zrow28 ty28 tsz29 tq29 zrow29 ty29 tsz30 tq30 zrow30 ty30 tsz31 tq31 zrow31 ty31 to31 tsz32 tq32 zrow32 zcells32 ty32 eqf32 to32 fo32_0 fo32_1 fo32_2 fo32_3 fo32_4 fo32_5 stq32 tsz33 tq33 zrow33 zcells33 ty33 eqf33 to33 fo33_0 fo33_1 fo33_2 fo33_3 fo33_4 fo33_5 stq33 tsz34 tq34 zrow34 ty34 tsz35 tq35 zrow35 ty35 sos35 to35 tsz36 tq36 zrow36 ty36 sos36 to36 tsz37 tq37 zrow37 ty37 to37 tsz38 tq38 zrow38 zcells38 ty38 eqf38 to38 fo38_0 fo38_1 fo38_2 fo38_3 fo38_4 fo38_5 stq38 tsz39 tq39 zrow39 ty39 tsz40 tq40 zrow40 ty40 sos40 to40 tsz41 tq41 zrow41 ty41 sos41 to41 tsz42 tq42 zrow42 zcells42 ty42 to42 fo42_0 fo42_1 fo42_2 fo42_3 fo42_4 stq42 tsz43 tq43 zrow43 zcells43 ty43 to43 fo43_0 fo43_1 fo43_2 fo43_3 fo43_4 stq43 tsz44 tq44 zrow44 zcells44 ty44 eqg44 to44 tsz45 tq45 zrow45 zcells45 ty45 eqg45 to45 tsz46 tq46 zrow46 zcells46 ty46 to46 fo46_0 fo46_1 fo46_2 fo46_3 stq46 tsz47 tq47 zrow47 zcells47 ty47 to47 fo47_0 fo47_1 fo47_2 fo47_3 stq47 tsz48 tq48 zrow48 ty48 tsz49 tq49 zrow49 ty49 tsz50 tq50 zrow50 ty50 tsz51 tq51 zrow51 ty51 to51 tsz52 tq52 zrow52 ty52 tsz53 tq53 zrow53 ty53 tsz54 tq54 zrow54 ty54 tsz55 tq55 zrow55 ty55 tsz56 tq56 zrow56 ty56 tsz57 tq57 zrow57 ty57 tsz58 tq58 zrow58 ty58 tsz59 tq59 zrow59 zcells59 ty59 to59 fo59_0 fo59_1 fo59_2 fo59_3 stq59 tsz60 tq60 zrow60 zcells60 ty60 to60 fo60_0 fo60_1 fo60_2 fo60_3 stq60 tsz61 tq61 zrow61 ty61 tsz62 tq62 zrow62 ty62 tsz63 tq63 zrow63 ty63 tsz64 tq64 zrow64 ty64 tsz65 tq65 zrow65 zcells65 ty65 eqf65 to65 fo65_0 fo65_1 stq65 tsz66 tq66 zrow66 zcells66 ty66 eqf66 to66 fo66_0 fo66_1 stq66 tsz67 tq67 zrow67 ty67 tsz68 tq68 zrow68 ty68 tsz69 tq69 zrow69 ty69 tsz70 tq70 zrow70 ty70 to70 tsz72 tq72 zrow72 ty72 tsz73 tq73 zrow73 ty73 tsz74 tq74 zrow74 ty74 tsz75 tq75 zrow75 ty75 tsz76 tq76 zrow76 zcells76 ty76 to76 fo76_0 fo76_1 fo76_2 fo76_3 stq76 tsz77 tq77 zrow77 zcells77 ty77 to77 fo77_0 fo77_1 fo77_2 fo77_3 stq77 tsz78 tq78 zrow78 zcells78 ty78 to78 tsz79 tq79 zrow79 zcells79 ty79 to79 fo79_0 stq79 tsz80 tq80 zrow80 zcells80 ty80 to80 fo80_0 stq80 tsz81 tq81 zrow81 ty81 tsz82 tq82 zrow82 ty82 to82 tsz83 tq83 zrow83 ty83 to83 tsz84 tq84 zrow84 ty84 tsz85 tq85 zrow85 ty85 to85 tsz86 tq86 zrow86 ty86 to86 tsz87 tq87 zrow87 ty87 to87 tsz88 tq88 zrow88 zcells88 ty88 to88 fo88_0 fo88_1 fo88_2 fo88_3 fo88_4 fo88_5 fo88_6 fo88_7 fo88_8 fo88_9 fo88_10 stq88 tsz89 tq89 zrow89 zcells89 ty89 to89 fo89_0 fo89_1 fo89_2 fo89_3 fo89_4 fo89_5 fo89_6 fo89_7 fo89_8 fo89_9 fo89_10 stq89
attribute [go_sem] Try.underlying0 Try.underlying1 Try.underlying2 Try.underlying3 Try.underlying4 Try.underlying5 Try.underlying6 Try.underlying7 Try.underlying8 Try.underlying9 Try.underlying10 Try.underlying11 Try.underlying12 Try.underlying13 Try.underlying14 Try.underlying15 Try.underlying16 Try.underlying17 Try.underlying18 Try.underlying19 Try.underlying20 Try.underlying21 Try.underlying22 Try.underlying23 Try.underlying24 Try.underlying25 Try.underlying26 Try.underlying27 Try.underlying28 Try.underlying29 Try.underlying30 Try.underlying31 Try.underlying32 Try.underlying33 Try.underlying34 Try.underlying35 Try.underlying36 Try.underlying37 Try.underlying38 Try.underlying39 Try.underlying40 Try.underlying41 Try.underlying42 Try.underlying43 Try.underlying44 Try.underlying45 Try.underlying46 Try.underlying47 Try.underlying48 Try.underlying49 Try.underlying50 Try.underlying51 Try.underlying52 Try.underlying53 Try.underlying54 Try.underlying55 Try.underlying56 Try.underlying57 Try.underlying58 Try.underlying59 Try.underlying60 Try.underlying61 Try.underlying62 Try.underlying63 Try.underlying64 Try.underlying65 Try.underlying66 Try.underlying67 Try.underlying68 Try.underlying69 Try.underlying70 Try.underlying71 Try.underlying72 Try.underlying73 Try.underlying74 Try.underlying75 Try.underlying76 Try.underlying77 Try.underlying78 Try.underlying79 Try.underlying80 Try.underlying81 Try.underlying82 Try.underlying83 Try.underlying84 Try.underlying85 Try.underlying86 Try.underlying87 Try.underlying88 Try.underlying89 Try.underlying90
end Go.Proofs.Ytcnoooodnmjdmaa
