/- The tables of the seat's types. Written by tab.py. -/
import Derived.Test.YtggomleegbnhbaaDoorAi2
import Derived.Test.YtggomleegbnhbaaDoorProg
import Derived.KernelRfl
set_option linter.unusedSimpArgs false
set_option maxRecDepth 100000
namespace Go.Proofs.YtggomleegbnhbaaDoor
open Go.RowKit
theorem tsz1 : tsz Tryd.prog 1 = some 1 := by kernel_rfl
theorem tq1 : tq Tryd.prog 1 = some (1, 8, some 1) := by kernel_rfl
theorem zrow1 : zrow Tryd.prog 1 = some (.raw [.v .nilFunc]) := by kernel_rfl
theorem ty1 : ty Tryd.prog 1 = none := by kernel_rfl
theorem tsz2 : tsz Tryd.prog 2 = some 1 := by kernel_rfl
theorem tq2 : tq Tryd.prog 2 = some (1, 8, some 1) := by kernel_rfl
theorem zrow2 : zrow Tryd.prog 2 = some (.raw [.v (.int .i64 0)]) := by kernel_rfl
theorem ty2 : ty Tryd.prog 2 = some (.i .i64) := by kernel_rfl
theorem to2 : tyOf Tryd.prog 1 2 = some (.i .i64) := by kernel_rfl
theorem tsz3 : tsz Tryd.prog 3 = some 1 := by kernel_rfl
theorem tq3 : tq Tryd.prog 3 = some (1, 8, some 1) := by kernel_rfl
theorem zrow3 : zrow Tryd.prog 3 = some (.raw [.v (.int .i64 0)]) := by kernel_rfl
theorem ty3 : ty Tryd.prog 3 = some (.i .i64) := by kernel_rfl
theorem to3 : tyOf Tryd.prog 1 3 = some (.i .i64) := by kernel_rfl
theorem tsz4 : tsz Tryd.prog 4 = some 1 := by kernel_rfl
theorem tq4 : tq Tryd.prog 4 = some (1, 1, some 1) := by kernel_rfl
theorem zrow4 : zrow Tryd.prog 4 = some (.raw [.v (.bool false)]) := by kernel_rfl
theorem ty4 : ty Tryd.prog 4 = some (.bo) := by kernel_rfl
theorem to4 : tyOf Tryd.prog 1 4 = some (.bo) := by kernel_rfl
theorem tsz5 : tsz Tryd.prog 5 = some 1 := by kernel_rfl
theorem tq5 : tq Tryd.prog 5 = some (1, 1, some 1) := by kernel_rfl
theorem zrow5 : zrow Tryd.prog 5 = some (.raw [.v (.int .u8 0)]) := by kernel_rfl
theorem ty5 : ty Tryd.prog 5 = some (.i .u8) := by kernel_rfl
theorem to5 : tyOf Tryd.prog 1 5 = some (.i .u8) := by kernel_rfl
theorem tsz6 : tsz Tryd.prog 6 = some 1 := by kernel_rfl
theorem tq6 : tq Tryd.prog 6 = some (1, 1, some 1) := by kernel_rfl
theorem zrow6 : zrow Tryd.prog 6 = some (.raw [.v (.int .u8 0)]) := by kernel_rfl
theorem ty6 : ty Tryd.prog 6 = some (.i .u8) := by kernel_rfl
theorem to6 : tyOf Tryd.prog 1 6 = some (.i .u8) := by kernel_rfl
theorem tsz7 : tsz Tryd.prog 7 = some 4 := by kernel_rfl
theorem tq7 : tq Tryd.prog 7 = some (4, 24, some 4) := by kernel_rfl
theorem zrow7 : zrow Tryd.prog 7 = some (.raw [.v (.int .i64 0), .v (.int .i64 0), .v (.bool false), .v (.int .u8 0)]) := by kernel_rfl
theorem zcells7 : zcells Tryd.prog 7 = some [.v (.int .i64 0), .v (.int .i64 0), .v (.bool false), .v (.int .u8 0)] := by kernel_rfl
theorem ty7 : ty Tryd.prog 7 = some (.pr (.i .i64) (.pr (.i .i64) (.pr (.bo) (.i .u8)))) := by kernel_rfl
theorem eqf7 : eqfs Tryd.prog 7 = some [(0, .i .i64), (1, .i .i64), (2, .bo), (3, .i .u8)] := by kernel_rfl
theorem to7 : tyOf Tryd.prog 1 7 = none := by kernel_rfl
theorem fo7_0 : fo Tryd.prog 7 0 = some (0, 2) := by kernel_rfl
theorem fo7_1 : fo Tryd.prog 7 1 = some (1, 3) := by kernel_rfl
theorem fo7_2 : fo Tryd.prog 7 2 = some (2, 4) := by kernel_rfl
theorem fo7_3 : fo Tryd.prog 7 3 = some (3, 6) := by kernel_rfl
theorem stq7 : stq Tryd.prog 7 = some [(0, 1), (1, 1), (2, 1), (3, 1)] := by kernel_rfl
theorem tsz8 : tsz Tryd.prog 8 = some 4 := by kernel_rfl
theorem tq8 : tq Tryd.prog 8 = some (4, 24, some 4) := by kernel_rfl
theorem zrow8 : zrow Tryd.prog 8 = some (.raw [.v (.int .i64 0), .v (.int .i64 0), .v (.bool false), .v (.int .u8 0)]) := by kernel_rfl
theorem zcells8 : zcells Tryd.prog 8 = some [.v (.int .i64 0), .v (.int .i64 0), .v (.bool false), .v (.int .u8 0)] := by kernel_rfl
theorem ty8 : ty Tryd.prog 8 = some (.pr (.i .i64) (.pr (.i .i64) (.pr (.bo) (.i .u8)))) := by kernel_rfl
theorem eqf8 : eqfs Tryd.prog 8 = some [(0, .i .i64), (1, .i .i64), (2, .bo), (3, .i .u8)] := by kernel_rfl
theorem to8 : tyOf Tryd.prog 1 8 = none := by kernel_rfl
theorem fo8_0 : fo Tryd.prog 8 0 = some (0, 2) := by kernel_rfl
theorem fo8_1 : fo Tryd.prog 8 1 = some (1, 3) := by kernel_rfl
theorem fo8_2 : fo Tryd.prog 8 2 = some (2, 4) := by kernel_rfl
theorem fo8_3 : fo Tryd.prog 8 3 = some (3, 6) := by kernel_rfl
theorem stq8 : stq Tryd.prog 8 = some [(0, 1), (1, 1), (2, 1), (3, 1)] := by kernel_rfl
theorem tsz9 : tsz Tryd.prog 9 = some 1 := by kernel_rfl
theorem tq9 : tq Tryd.prog 9 = some (1, 16, some 1) := by kernel_rfl
theorem zrow9 : zrow Tryd.prog 9 = some (.raw [.v (.string ⟨#[]⟩)]) := by kernel_rfl
theorem ty9 : ty Tryd.prog 9 = some (.st) := by kernel_rfl
theorem sos9 : slOrStr Tryd.prog 9 = true := by kernel_rfl
theorem to9 : tyOf Tryd.prog 1 9 = some (.st) := by kernel_rfl
theorem tsz10 : tsz Tryd.prog 10 = some 1 := by kernel_rfl
theorem tq10 : tq Tryd.prog 10 = some (1, 16, some 1) := by kernel_rfl
theorem zrow10 : zrow Tryd.prog 10 = some (.raw [.v (.string ⟨#[]⟩)]) := by kernel_rfl
theorem ty10 : ty Tryd.prog 10 = some (.st) := by kernel_rfl
theorem sos10 : slOrStr Tryd.prog 10 = true := by kernel_rfl
theorem to10 : tyOf Tryd.prog 1 10 = some (.st) := by kernel_rfl
theorem tsz11 : tsz Tryd.prog 11 = some 1 := by kernel_rfl
theorem tq11 : tq Tryd.prog 11 = some (1, 16, some 1) := by kernel_rfl
theorem zrow11 : zrow Tryd.prog 11 = some (.raw [.v (.string ⟨#[]⟩)]) := by kernel_rfl
theorem ty11 : ty Tryd.prog 11 = some (.st) := by kernel_rfl
theorem sos11 : slOrStr Tryd.prog 11 = true := by kernel_rfl
theorem to11 : tyOf Tryd.prog 1 11 = some (.st) := by kernel_rfl
theorem tsz12 : tsz Tryd.prog 12 = some 1 := by kernel_rfl
theorem tq12 : tq Tryd.prog 12 = some (1, 8, some 1) := by kernel_rfl
theorem zrow12 : zrow Tryd.prog 12 = some (.raw [.v (.int .u64 0)]) := by kernel_rfl
theorem ty12 : ty Tryd.prog 12 = some (.i .u64) := by kernel_rfl
theorem to12 : tyOf Tryd.prog 1 12 = some (.i .u64) := by kernel_rfl
theorem tsz13 : tsz Tryd.prog 13 = some 2 := by kernel_rfl
theorem tq13 : tq Tryd.prog 13 = some (2, 24, some 2) := by kernel_rfl
theorem zrow13 : zrow Tryd.prog 13 = some (.raw [.v (.string ⟨#[]⟩), .v (.int .u64 0)]) := by kernel_rfl
theorem zcells13 : zcells Tryd.prog 13 = some [.v (.string ⟨#[]⟩), .v (.int .u64 0)] := by kernel_rfl
theorem ty13 : ty Tryd.prog 13 = some (.pr (.st) (.i .u64)) := by kernel_rfl
theorem to13 : tyOf Tryd.prog 1 13 = none := by kernel_rfl
theorem fo13_0 : fo Tryd.prog 13 0 = some (0, 9) := by kernel_rfl
theorem fo13_1 : fo Tryd.prog 13 1 = some (1, 12) := by kernel_rfl
theorem stq13 : stq Tryd.prog 13 = some [(0, 1), (1, 1)] := by kernel_rfl
theorem tsz14 : tsz Tryd.prog 14 = some 2 := by kernel_rfl
theorem tq14 : tq Tryd.prog 14 = some (2, 24, some 2) := by kernel_rfl
theorem zrow14 : zrow Tryd.prog 14 = some (.raw [.v (.string ⟨#[]⟩), .v (.int .u64 0)]) := by kernel_rfl
theorem zcells14 : zcells Tryd.prog 14 = some [.v (.string ⟨#[]⟩), .v (.int .u64 0)] := by kernel_rfl
theorem ty14 : ty Tryd.prog 14 = some (.pr (.st) (.i .u64)) := by kernel_rfl
theorem to14 : tyOf Tryd.prog 1 14 = none := by kernel_rfl
theorem fo14_0 : fo Tryd.prog 14 0 = some (0, 9) := by kernel_rfl
theorem fo14_1 : fo Tryd.prog 14 1 = some (1, 12) := by kernel_rfl
theorem stq14 : stq Tryd.prog 14 = some [(0, 1), (1, 1)] := by kernel_rfl
theorem tsz15 : tsz Tryd.prog 15 = some 1 := by kernel_rfl
theorem tq15 : tq Tryd.prog 15 = some (1, 8, some 1) := by kernel_rfl
theorem zrow15 : zrow Tryd.prog 15 = some (.raw [.v (.pointer none)]) := by kernel_rfl
theorem ty15 : ty Tryd.prog 15 = none := by kernel_rfl
theorem to15 : tyOf Tryd.prog 1 15 = none := by kernel_rfl
theorem tsz16 : tsz Tryd.prog 16 = some 1 := by kernel_rfl
theorem tq16 : tq Tryd.prog 16 = some (1, 8, some 1) := by kernel_rfl
theorem zrow16 : zrow Tryd.prog 16 = some (.raw [.v (.pointer none)]) := by kernel_rfl
theorem ty16 : ty Tryd.prog 16 = none := by kernel_rfl
theorem to16 : tyOf Tryd.prog 1 16 = none := by kernel_rfl
theorem tsz17 : tsz Tryd.prog 17 = some 1 := by kernel_rfl
theorem tq17 : tq Tryd.prog 17 = some (1, 8, some 1) := by kernel_rfl
theorem zrow17 : zrow Tryd.prog 17 = some (.raw [.v (.pointer none)]) := by kernel_rfl
theorem ty17 : ty Tryd.prog 17 = none := by kernel_rfl
theorem to17 : tyOf Tryd.prog 1 17 = none := by kernel_rfl
theorem tsz18 : tsz Tryd.prog 18 = some 1 := by kernel_rfl
theorem tq18 : tq Tryd.prog 18 = some (1, 8, some 1) := by kernel_rfl
theorem zrow18 : zrow Tryd.prog 18 = some (.raw [.v (.pointer none)]) := by kernel_rfl
theorem zcells18 : zcells Tryd.prog 18 = some [.v (.pointer none)] := by kernel_rfl
theorem ty18 : ty Tryd.prog 18 = none := by kernel_rfl
theorem to18 : tyOf Tryd.prog 1 18 = none := by kernel_rfl
theorem fo18_0 : fo Tryd.prog 18 0 = some (0, 17) := by kernel_rfl
theorem stq18 : stq Tryd.prog 18 = some [(0, 1)] := by kernel_rfl
theorem tsz19 : tsz Tryd.prog 19 = some 1 := by kernel_rfl
theorem tq19 : tq Tryd.prog 19 = some (1, 8, some 1) := by kernel_rfl
theorem zrow19 : zrow Tryd.prog 19 = some (.raw [.v (.pointer none)]) := by kernel_rfl
theorem zcells19 : zcells Tryd.prog 19 = some [.v (.pointer none)] := by kernel_rfl
theorem ty19 : ty Tryd.prog 19 = none := by kernel_rfl
theorem to19 : tyOf Tryd.prog 1 19 = none := by kernel_rfl
theorem fo19_0 : fo Tryd.prog 19 0 = some (0, 17) := by kernel_rfl
theorem stq19 : stq Tryd.prog 19 = some [(0, 1)] := by kernel_rfl
theorem tsz21 : tsz Tryd.prog 21 = some 1 := by kernel_rfl
theorem tq21 : tq Tryd.prog 21 = some (1, 4, some 1) := by kernel_rfl
theorem zrow21 : zrow Tryd.prog 21 = some (.raw [.v (.int .i32 0)]) := by kernel_rfl
theorem ty21 : ty Tryd.prog 21 = some (.i .i32) := by kernel_rfl
theorem to21 : tyOf Tryd.prog 1 21 = some (.i .i32) := by kernel_rfl
theorem tsz22 : tsz Tryd.prog 22 = some 1 := by kernel_rfl
theorem tq22 : tq Tryd.prog 22 = some (1, 24, some 1) := by kernel_rfl
theorem zrow22 : zrow Tryd.prog 22 = some (.raw [.v (.slice none 0 0)]) := by kernel_rfl
theorem ty22 : ty Tryd.prog 22 = some (.sl (.i .u8)) := by kernel_rfl
theorem sos22 : slOrStr Tryd.prog 22 = true := by kernel_rfl
theorem to22 : tyOf Tryd.prog 1 22 = none := by kernel_rfl
theorem tsz23 : tsz Tryd.prog 23 = some 1 := by kernel_rfl
theorem tq23 : tq Tryd.prog 23 = some (1, 8, some 1) := by kernel_rfl
theorem zrow23 : zrow Tryd.prog 23 = some (.raw [.v .nilFunc]) := by kernel_rfl
theorem ty23 : ty Tryd.prog 23 = none := by kernel_rfl
theorem tsz24 : tsz Tryd.prog 24 = some 1 := by kernel_rfl
theorem tq24 : tq Tryd.prog 24 = some (1, 8, some 1) := by kernel_rfl
theorem zrow24 : zrow Tryd.prog 24 = some (.raw [.v (.int .i64 0)]) := by kernel_rfl
theorem ty24 : ty Tryd.prog 24 = some (.i .i64) := by kernel_rfl
theorem to24 : tyOf Tryd.prog 1 24 = some (.i .i64) := by kernel_rfl
theorem tsz26 : tsz Tryd.prog 26 = some 1 := by kernel_rfl
theorem tq26 : tq Tryd.prog 26 = some (1, 8, some 1) := by kernel_rfl
theorem zrow26 : zrow Tryd.prog 26 = some (.raw [.v .nilFunc]) := by kernel_rfl
theorem ty26 : ty Tryd.prog 26 = none := by kernel_rfl
theorem tsz28 : tsz Tryd.prog 28 = some 1 := by kernel_rfl
theorem tq28 : tq Tryd.prog 28 = some (1, 8, some 1) := by kernel_rfl
theorem zrow28 : zrow Tryd.prog 28 = some (.raw [.v .nilFunc]) := by kernel_rfl
theorem ty28 : ty Tryd.prog 28 = none := by kernel_rfl
theorem tsz29 : tsz Tryd.prog 29 = some 1 := by kernel_rfl
theorem tq29 : tq Tryd.prog 29 = some (1, 8, some 1) := by kernel_rfl
theorem zrow29 : zrow Tryd.prog 29 = some (.raw [.v .nilFunc]) := by kernel_rfl
theorem ty29 : ty Tryd.prog 29 = none := by kernel_rfl
theorem tsz30 : tsz Tryd.prog 30 = some 1 := by kernel_rfl
theorem tq30 : tq Tryd.prog 30 = some (1, 8, some 1) := by kernel_rfl
theorem zrow30 : zrow Tryd.prog 30 = some (.raw [.v .nilFunc]) := by kernel_rfl
theorem ty30 : ty Tryd.prog 30 = none := by kernel_rfl
theorem tsz31 : tsz Tryd.prog 31 = some 1 := by kernel_rfl
theorem tq31 : tq Tryd.prog 31 = some (1, 8, some 1) := by kernel_rfl
theorem zrow31 : zrow Tryd.prog 31 = some (.raw [.v .nilFunc]) := by kernel_rfl
theorem ty31 : ty Tryd.prog 31 = none := by kernel_rfl
theorem tsz32 : tsz Tryd.prog 32 = some 1 := by kernel_rfl
theorem tq32 : tq Tryd.prog 32 = some (1, 8, some 1) := by kernel_rfl
theorem zrow32 : zrow Tryd.prog 32 = some (.raw [.v .nilFunc]) := by kernel_rfl
theorem ty32 : ty Tryd.prog 32 = none := by kernel_rfl
theorem tsz33 : tsz Tryd.prog 33 = some 1 := by kernel_rfl
theorem tq33 : tq Tryd.prog 33 = some (1, 8, some 1) := by kernel_rfl
theorem zrow33 : zrow Tryd.prog 33 = some (.raw [.v .nilFunc]) := by kernel_rfl
theorem ty33 : ty Tryd.prog 33 = none := by kernel_rfl
theorem tsz34 : tsz Tryd.prog 34 = some 1 := by kernel_rfl
theorem tq34 : tq Tryd.prog 34 = some (1, 8, some 1) := by kernel_rfl
theorem zrow34 : zrow Tryd.prog 34 = some (.raw [.v .nilFunc]) := by kernel_rfl
theorem ty34 : ty Tryd.prog 34 = none := by kernel_rfl
theorem tsz35 : tsz Tryd.prog 35 = some 1 := by kernel_rfl
theorem tq35 : tq Tryd.prog 35 = some (1, 8, some 1) := by kernel_rfl
theorem zrow35 : zrow Tryd.prog 35 = some (.raw [.v (.pointer none)]) := by kernel_rfl
theorem ty35 : ty Tryd.prog 35 = none := by kernel_rfl
theorem to35 : tyOf Tryd.prog 1 35 = none := by kernel_rfl
theorem tsz36 : tsz Tryd.prog 36 = some 1 := by kernel_rfl
theorem tq36 : tq Tryd.prog 36 = some (1, 8, some 1) := by kernel_rfl
theorem zrow36 : zrow Tryd.prog 36 = some (.raw [.v .nilFunc]) := by kernel_rfl
theorem ty36 : ty Tryd.prog 36 = none := by kernel_rfl
theorem tsz37 : tsz Tryd.prog 37 = some 1 := by kernel_rfl
theorem tq37 : tq Tryd.prog 37 = some (1, 24, some 1) := by kernel_rfl
theorem zrow37 : zrow Tryd.prog 37 = some (.raw [.v (.slice none 0 0)]) := by kernel_rfl
theorem ty37 : ty Tryd.prog 37 = some (.sl (.i .i64)) := by kernel_rfl
theorem sos37 : slOrStr Tryd.prog 37 = true := by kernel_rfl
theorem to37 : tyOf Tryd.prog 1 37 = none := by kernel_rfl
theorem tsz38 : tsz Tryd.prog 38 = some 1 := by kernel_rfl
theorem tq38 : tq Tryd.prog 38 = some (1, 8, some 1) := by kernel_rfl
theorem zrow38 : zrow Tryd.prog 38 = some (.raw [.v .nilFunc]) := by kernel_rfl
theorem ty38 : ty Tryd.prog 38 = none := by kernel_rfl
theorem tsz39 : tsz Tryd.prog 39 = some 1 := by kernel_rfl
theorem tq39 : tq Tryd.prog 39 = some (1, 8, some 1) := by kernel_rfl
theorem zrow39 : zrow Tryd.prog 39 = some (.raw [.v .nilFunc]) := by kernel_rfl
theorem ty39 : ty Tryd.prog 39 = none := by kernel_rfl
theorem tsz40 : tsz Tryd.prog 40 = some 1 := by kernel_rfl
theorem tq40 : tq Tryd.prog 40 = some (1, 8, some 1) := by kernel_rfl
theorem zrow40 : zrow Tryd.prog 40 = some (.raw [.v .nilFunc]) := by kernel_rfl
theorem ty40 : ty Tryd.prog 40 = none := by kernel_rfl
theorem tsz41 : tsz Tryd.prog 41 = some 1 := by kernel_rfl
theorem tq41 : tq Tryd.prog 41 = some (1, 8, some 1) := by kernel_rfl
theorem zrow41 : zrow Tryd.prog 41 = some (.raw [.v .nilFunc]) := by kernel_rfl
theorem ty41 : ty Tryd.prog 41 = none := by kernel_rfl
theorem tsz42 : tsz Tryd.prog 42 = some 1 := by kernel_rfl
theorem tq42 : tq Tryd.prog 42 = some (1, 8, some 1) := by kernel_rfl
theorem zrow42 : zrow Tryd.prog 42 = some (.raw [.v .nilFunc]) := by kernel_rfl
theorem ty42 : ty Tryd.prog 42 = none := by kernel_rfl
theorem tsz43 : tsz Tryd.prog 43 = some 510 := by kernel_rfl
theorem tq43 : tq Tryd.prog 43 = some (510, 510, some 510) := by kernel_rfl
theorem zrow43 : zrow Tryd.prog 43 = some (.ty (.i .u8) (List.replicate 510 0)) := by kernel_rfl
theorem ty43 : ty Tryd.prog 43 = some (.ar 510 (.i .u8)) := by kernel_rfl
theorem eqg43 : eqg Tryd.prog 43 = false := by kernel_rfl
theorem to43 : tyOf Tryd.prog 1 43 = none := by kernel_rfl
theorem tsz44 : tsz Tryd.prog 44 = some 256 := by kernel_rfl
theorem tq44 : tq Tryd.prog 44 = some (256, 2048, some 256) := by kernel_rfl
theorem zrow44 : zrow Tryd.prog 44 = some (.ty (.i .i64) (List.replicate 256 0)) := by kernel_rfl
theorem ty44 : ty Tryd.prog 44 = some (.ar 256 (.i .i64)) := by kernel_rfl
theorem eqg44 : eqg Tryd.prog 44 = false := by kernel_rfl
theorem to44 : tyOf Tryd.prog 1 44 = none := by kernel_rfl
theorem tsz45 : tsz Tryd.prog 45 = some 766 := by kernel_rfl
theorem tq45 : tq Tryd.prog 45 = some (766, 2560, some 766) := by kernel_rfl
theorem zrow45 : zrow Tryd.prog 45 = some (.ty (.pr (.ar 510 (.i .u8)) (.ar 256 (.i .i64))) [(List.replicate 510 ((0 : Int)), List.replicate 256 ((0 : Int)))]) := by kernel_rfl
theorem ty45 : ty Tryd.prog 45 = some (.pr (.ar 510 (.i .u8)) (.ar 256 (.i .i64))) := by kernel_rfl
theorem to45 : tyOf Tryd.prog 1 45 = none := by kernel_rfl
theorem fo45_0 : fo Tryd.prog 45 0 = some (0, 43) := by kernel_rfl
theorem fo45_1 : fo Tryd.prog 45 1 = some (510, 44) := by kernel_rfl
theorem stq45 : stq Tryd.prog 45 = some [(0, 510), (510, 256)] := by kernel_rfl
theorem tsz46 : tsz Tryd.prog 46 = some 766 := by kernel_rfl
theorem tq46 : tq Tryd.prog 46 = some (766, 2560, some 766) := by kernel_rfl
theorem zrow46 : zrow Tryd.prog 46 = some (.ty (.pr (.ar 510 (.i .u8)) (.ar 256 (.i .i64))) [(List.replicate 510 ((0 : Int)), List.replicate 256 ((0 : Int)))]) := by kernel_rfl
theorem ty46 : ty Tryd.prog 46 = some (.pr (.ar 510 (.i .u8)) (.ar 256 (.i .i64))) := by kernel_rfl
theorem to46 : tyOf Tryd.prog 1 46 = none := by kernel_rfl
theorem fo46_0 : fo Tryd.prog 46 0 = some (0, 43) := by kernel_rfl
theorem fo46_1 : fo Tryd.prog 46 1 = some (510, 44) := by kernel_rfl
theorem stq46 : stq Tryd.prog 46 = some [(0, 510), (510, 256)] := by kernel_rfl
theorem tsz47 : tsz Tryd.prog 47 = some 1 := by kernel_rfl
theorem tq47 : tq Tryd.prog 47 = some (1, 8, some 1) := by kernel_rfl
theorem zrow47 : zrow Tryd.prog 47 = some (.raw [.v (.int .u64 0)]) := by kernel_rfl
theorem ty47 : ty Tryd.prog 47 = some (.i .u64) := by kernel_rfl
theorem to47 : tyOf Tryd.prog 1 47 = some (.i .u64) := by kernel_rfl
theorem tsz48 : tsz Tryd.prog 48 = some 1 := by kernel_rfl
theorem tq48 : tq Tryd.prog 48 = some (1, 8, some 1) := by kernel_rfl
theorem zrow48 : zrow Tryd.prog 48 = some (.raw [.v .nilFunc]) := by kernel_rfl
theorem ty48 : ty Tryd.prog 48 = none := by kernel_rfl
theorem tsz49 : tsz Tryd.prog 49 = some 256 := by kernel_rfl
theorem tq49 : tq Tryd.prog 49 = some (256, 256, some 256) := by kernel_rfl
theorem zrow49 : zrow Tryd.prog 49 = some (.ty (.bo) (List.replicate 256 false)) := by kernel_rfl
theorem ty49 : ty Tryd.prog 49 = some (.ar 256 (.bo)) := by kernel_rfl
theorem to49 : tyOf Tryd.prog 1 49 = none := by kernel_rfl
theorem tsz50 : tsz Tryd.prog 50 = some 256 := by kernel_rfl
theorem tq50 : tq Tryd.prog 50 = some (256, 256, some 256) := by kernel_rfl
theorem zrow50 : zrow Tryd.prog 50 = some (.ty (.bo) (List.replicate 256 false)) := by kernel_rfl
theorem ty50 : ty Tryd.prog 50 = some (.ar 256 (.bo)) := by kernel_rfl
theorem to50 : tyOf Tryd.prog 1 50 = none := by kernel_rfl
theorem tsz52 : tsz Tryd.prog 52 = some 1 := by kernel_rfl
theorem tq52 : tq Tryd.prog 52 = some (1, 8, some 1) := by kernel_rfl
theorem zrow52 : zrow Tryd.prog 52 = some (.raw [.v .nilFunc]) := by kernel_rfl
theorem ty52 : ty Tryd.prog 52 = none := by kernel_rfl
theorem tsz53 : tsz Tryd.prog 53 = some 1 := by kernel_rfl
theorem tq53 : tq Tryd.prog 53 = some (1, 8, some 1) := by kernel_rfl
theorem zrow53 : zrow Tryd.prog 53 = some (.raw [.v .nilFunc]) := by kernel_rfl
theorem ty53 : ty Tryd.prog 53 = none := by kernel_rfl
theorem tsz54 : tsz Tryd.prog 54 = some 1 := by kernel_rfl
theorem tq54 : tq Tryd.prog 54 = some (1, 8, some 1) := by kernel_rfl
theorem zrow54 : zrow Tryd.prog 54 = some (.raw [.v (.pointer none)]) := by kernel_rfl
theorem ty54 : ty Tryd.prog 54 = none := by kernel_rfl
theorem to54 : tyOf Tryd.prog 1 54 = none := by kernel_rfl
theorem tsz55 : tsz Tryd.prog 55 = some 1 := by kernel_rfl
theorem tq55 : tq Tryd.prog 55 = some (1, 8, some 1) := by kernel_rfl
theorem zrow55 : zrow Tryd.prog 55 = some (.raw [.v .nilFunc]) := by kernel_rfl
theorem ty55 : ty Tryd.prog 55 = none := by kernel_rfl
theorem tsz56 : tsz Tryd.prog 56 = some 200 := by kernel_rfl
theorem tq56 : tq Tryd.prog 56 = some (200, 200, some 200) := by kernel_rfl
theorem zrow56 : zrow Tryd.prog 56 = some (.ty (.bo) (List.replicate 200 false)) := by kernel_rfl
theorem ty56 : ty Tryd.prog 56 = some (.ar 200 (.bo)) := by kernel_rfl
theorem to56 : tyOf Tryd.prog 1 56 = none := by kernel_rfl
theorem tsz57 : tsz Tryd.prog 57 = some 2 := by kernel_rfl
theorem tq57 : tq Tryd.prog 57 = some (2, 2, some 2) := by kernel_rfl
theorem zrow57 : zrow Tryd.prog 57 = some (.raw [.v (.int .u8 0), .v (.int .u8 0)]) := by kernel_rfl
theorem zcells57 : zcells Tryd.prog 57 = some [.v (.int .u8 0), .v (.int .u8 0)] := by kernel_rfl
theorem ty57 : ty Tryd.prog 57 = some (.pr (.i .u8) (.i .u8)) := by kernel_rfl
theorem eqf57 : eqfs Tryd.prog 57 = some [(0, .i .u8), (1, .i .u8)] := by kernel_rfl
theorem to57 : tyOf Tryd.prog 1 57 = none := by kernel_rfl
theorem fo57_0 : fo Tryd.prog 57 0 = some (0, 5) := by kernel_rfl
theorem fo57_1 : fo Tryd.prog 57 1 = some (1, 5) := by kernel_rfl
theorem stq57 : stq Tryd.prog 57 = some [(0, 1), (1, 1)] := by kernel_rfl
theorem tsz58 : tsz Tryd.prog 58 = some 2 := by kernel_rfl
theorem tq58 : tq Tryd.prog 58 = some (2, 2, some 2) := by kernel_rfl
theorem zrow58 : zrow Tryd.prog 58 = some (.raw [.v (.int .u8 0), .v (.int .u8 0)]) := by kernel_rfl
theorem zcells58 : zcells Tryd.prog 58 = some [.v (.int .u8 0), .v (.int .u8 0)] := by kernel_rfl
theorem ty58 : ty Tryd.prog 58 = some (.pr (.i .u8) (.i .u8)) := by kernel_rfl
theorem eqf58 : eqfs Tryd.prog 58 = some [(0, .i .u8), (1, .i .u8)] := by kernel_rfl
theorem to58 : tyOf Tryd.prog 1 58 = none := by kernel_rfl
theorem fo58_0 : fo Tryd.prog 58 0 = some (0, 5) := by kernel_rfl
theorem fo58_1 : fo Tryd.prog 58 1 = some (1, 5) := by kernel_rfl
theorem stq58 : stq Tryd.prog 58 = some [(0, 1), (1, 1)] := by kernel_rfl
theorem tsz59 : tsz Tryd.prog 59 = some 1 := by kernel_rfl
theorem tq59 : tq Tryd.prog 59 = some (1, 24, some 1) := by kernel_rfl
theorem zrow59 : zrow Tryd.prog 59 = some (.raw [.v (.slice none 0 0)]) := by kernel_rfl
theorem ty59 : ty Tryd.prog 59 = some (.sl (.pr (.i .u8) (.i .u8))) := by kernel_rfl
theorem sos59 : slOrStr Tryd.prog 59 = true := by kernel_rfl
theorem to59 : tyOf Tryd.prog 1 59 = none := by kernel_rfl
theorem tsz60 : tsz Tryd.prog 60 = some 1 := by kernel_rfl
theorem tq60 : tq Tryd.prog 60 = some (1, 8, some 1) := by kernel_rfl
theorem zrow60 : zrow Tryd.prog 60 = some (.raw [.v .nilFunc]) := by kernel_rfl
theorem ty60 : ty Tryd.prog 60 = none := by kernel_rfl
theorem tsz61 : tsz Tryd.prog 61 = some 1 := by kernel_rfl
theorem tq61 : tq Tryd.prog 61 = some (1, 8, some 1) := by kernel_rfl
theorem zrow61 : zrow Tryd.prog 61 = some (.raw [.v .nilFunc]) := by kernel_rfl
theorem ty61 : ty Tryd.prog 61 = none := by kernel_rfl
theorem tsz63 : tsz Tryd.prog 63 = some 1 := by kernel_rfl
theorem tq63 : tq Tryd.prog 63 = some (1, 8, some 1) := by kernel_rfl
theorem zrow63 : zrow Tryd.prog 63 = some (.raw [.v .nilFunc]) := by kernel_rfl
theorem ty63 : ty Tryd.prog 63 = none := by kernel_rfl
theorem tsz64 : tsz Tryd.prog 64 = some 1 := by kernel_rfl
theorem tq64 : tq Tryd.prog 64 = some (1, 8, some 1) := by kernel_rfl
theorem zrow64 : zrow Tryd.prog 64 = some (.raw [.v .nilFunc]) := by kernel_rfl
theorem ty64 : ty Tryd.prog 64 = none := by kernel_rfl
theorem tsz65 : tsz Tryd.prog 65 = some 1 := by kernel_rfl
theorem tq65 : tq Tryd.prog 65 = some (1, 8, some 1) := by kernel_rfl
theorem zrow65 : zrow Tryd.prog 65 = some (.raw [.v .nilFunc]) := by kernel_rfl
theorem ty65 : ty Tryd.prog 65 = none := by kernel_rfl
theorem tsz67 : tsz Tryd.prog 67 = some 1 := by kernel_rfl
theorem tq67 : tq Tryd.prog 67 = some (1, 8, some 1) := by kernel_rfl
theorem zrow67 : zrow Tryd.prog 67 = some (.raw [.v .nilFunc]) := by kernel_rfl
theorem ty67 : ty Tryd.prog 67 = none := by kernel_rfl
theorem tsz68 : tsz Tryd.prog 68 = some 1 := by kernel_rfl
theorem tq68 : tq Tryd.prog 68 = some (1, 8, some 1) := by kernel_rfl
theorem zrow68 : zrow Tryd.prog 68 = some (.raw [.v .nilFunc]) := by kernel_rfl
theorem ty68 : ty Tryd.prog 68 = none := by kernel_rfl
theorem tsz69 : tsz Tryd.prog 69 = some 1 := by kernel_rfl
theorem tq69 : tq Tryd.prog 69 = some (1, 8, some 1) := by kernel_rfl
theorem zrow69 : zrow Tryd.prog 69 = some (.raw [.v .nilFunc]) := by kernel_rfl
theorem ty69 : ty Tryd.prog 69 = none := by kernel_rfl
theorem tsz70 : tsz Tryd.prog 70 = some 1 := by kernel_rfl
theorem tq70 : tq Tryd.prog 70 = some (1, 8, some 1) := by kernel_rfl
theorem zrow70 : zrow Tryd.prog 70 = some (.raw [.v .nilFunc]) := by kernel_rfl
theorem ty70 : ty Tryd.prog 70 = none := by kernel_rfl
theorem tsz71 : tsz Tryd.prog 71 = some 1 := by kernel_rfl
theorem tq71 : tq Tryd.prog 71 = some (1, 8, some 1) := by kernel_rfl
theorem zrow71 : zrow Tryd.prog 71 = some (.raw [.v .nilFunc]) := by kernel_rfl
theorem ty71 : ty Tryd.prog 71 = none := by kernel_rfl
theorem tsz72 : tsz Tryd.prog 72 = some 1 := by kernel_rfl
theorem tq72 : tq Tryd.prog 72 = some (1, 8, some 1) := by kernel_rfl
theorem zrow72 : zrow Tryd.prog 72 = some (.raw [.v .nilFunc]) := by kernel_rfl
theorem ty72 : ty Tryd.prog 72 = none := by kernel_rfl
theorem tsz73 : tsz Tryd.prog 73 = some 1 := by kernel_rfl
theorem tq73 : tq Tryd.prog 73 = some (1, 8, some 1) := by kernel_rfl
theorem zrow73 : zrow Tryd.prog 73 = some (.raw [.v .nilFunc]) := by kernel_rfl
theorem ty73 : ty Tryd.prog 73 = none := by kernel_rfl
theorem tsz74 : tsz Tryd.prog 74 = some 256 := by kernel_rfl
theorem tq74 : tq Tryd.prog 74 = some (256, 256, some 256) := by kernel_rfl
theorem zrow74 : zrow Tryd.prog 74 = some (.ty (.i .u8) (List.replicate 256 0)) := by kernel_rfl
theorem ty74 : ty Tryd.prog 74 = some (.ar 256 (.i .u8)) := by kernel_rfl
theorem eqg74 : eqg Tryd.prog 74 = false := by kernel_rfl
theorem to74 : tyOf Tryd.prog 1 74 = none := by kernel_rfl
theorem tsz75 : tsz Tryd.prog 75 = some 2 := by kernel_rfl
theorem tq75 : tq Tryd.prog 75 = some (2, 2, some 2) := by kernel_rfl
theorem zrow75 : zrow Tryd.prog 75 = some (.raw [.v (.int .u8 0), .v (.int .u8 0)]) := by kernel_rfl
theorem zcells75 : zcells Tryd.prog 75 = some [.v (.int .u8 0), .v (.int .u8 0)] := by kernel_rfl
theorem ty75 : ty Tryd.prog 75 = some (.pr (.i .u8) (.i .u8)) := by kernel_rfl
theorem eqf75 : eqfs Tryd.prog 75 = some [(0, .i .u8), (1, .i .u8)] := by kernel_rfl
theorem to75 : tyOf Tryd.prog 1 75 = none := by kernel_rfl
theorem fo75_0 : fo Tryd.prog 75 0 = some (0, 5) := by kernel_rfl
theorem fo75_1 : fo Tryd.prog 75 1 = some (1, 5) := by kernel_rfl
theorem stq75 : stq Tryd.prog 75 = some [(0, 1), (1, 1)] := by kernel_rfl
theorem tsz76 : tsz Tryd.prog 76 = some 2 := by kernel_rfl
theorem tq76 : tq Tryd.prog 76 = some (2, 2, some 2) := by kernel_rfl
theorem zrow76 : zrow Tryd.prog 76 = some (.raw [.v (.int .u8 0), .v (.int .u8 0)]) := by kernel_rfl
theorem zcells76 : zcells Tryd.prog 76 = some [.v (.int .u8 0), .v (.int .u8 0)] := by kernel_rfl
theorem ty76 : ty Tryd.prog 76 = some (.pr (.i .u8) (.i .u8)) := by kernel_rfl
theorem eqf76 : eqfs Tryd.prog 76 = some [(0, .i .u8), (1, .i .u8)] := by kernel_rfl
theorem to76 : tyOf Tryd.prog 1 76 = none := by kernel_rfl
theorem fo76_0 : fo Tryd.prog 76 0 = some (0, 5) := by kernel_rfl
theorem fo76_1 : fo Tryd.prog 76 1 = some (1, 5) := by kernel_rfl
theorem stq76 : stq Tryd.prog 76 = some [(0, 1), (1, 1)] := by kernel_rfl
theorem tsz77 : tsz Tryd.prog 77 = some 32 := by kernel_rfl
theorem tq77 : tq Tryd.prog 77 = some (32, 32, some 32) := by kernel_rfl
theorem zrow77 : zrow Tryd.prog 77 = some (.raw [.v (.int .u8 0), .v (.int .u8 0), .v (.int .u8 0), .v (.int .u8 0), .v (.int .u8 0), .v (.int .u8 0), .v (.int .u8 0), .v (.int .u8 0), .v (.int .u8 0), .v (.int .u8 0), .v (.int .u8 0), .v (.int .u8 0), .v (.int .u8 0), .v (.int .u8 0), .v (.int .u8 0), .v (.int .u8 0), .v (.int .u8 0), .v (.int .u8 0), .v (.int .u8 0), .v (.int .u8 0), .v (.int .u8 0), .v (.int .u8 0), .v (.int .u8 0), .v (.int .u8 0), .v (.int .u8 0), .v (.int .u8 0), .v (.int .u8 0), .v (.int .u8 0), .v (.int .u8 0), .v (.int .u8 0), .v (.int .u8 0), .v (.int .u8 0)]) := by kernel_rfl
theorem zcells77 : zcells Tryd.prog 77 = some [.v (.int .u8 0), .v (.int .u8 0), .v (.int .u8 0), .v (.int .u8 0), .v (.int .u8 0), .v (.int .u8 0), .v (.int .u8 0), .v (.int .u8 0), .v (.int .u8 0), .v (.int .u8 0), .v (.int .u8 0), .v (.int .u8 0), .v (.int .u8 0), .v (.int .u8 0), .v (.int .u8 0), .v (.int .u8 0), .v (.int .u8 0), .v (.int .u8 0), .v (.int .u8 0), .v (.int .u8 0), .v (.int .u8 0), .v (.int .u8 0), .v (.int .u8 0), .v (.int .u8 0), .v (.int .u8 0), .v (.int .u8 0), .v (.int .u8 0), .v (.int .u8 0), .v (.int .u8 0), .v (.int .u8 0), .v (.int .u8 0), .v (.int .u8 0)] := by kernel_rfl
theorem ty77 : ty Tryd.prog 77 = some (.ar 16 (.pr (.i .u8) (.i .u8))) := by kernel_rfl
theorem to77 : tyOf Tryd.prog 1 77 = none := by kernel_rfl
theorem tsz78 : tsz Tryd.prog 78 = some 1 := by kernel_rfl
theorem tq78 : tq Tryd.prog 78 = some (1, 8, some 1) := by kernel_rfl
theorem zrow78 : zrow Tryd.prog 78 = some (.raw [.v .nilFunc]) := by kernel_rfl
theorem ty78 : ty Tryd.prog 78 = none := by kernel_rfl
theorem tsz79 : tsz Tryd.prog 79 = some 1 := by kernel_rfl
theorem tq79 : tq Tryd.prog 79 = some (1, 8, some 1) := by kernel_rfl
theorem zrow79 : zrow Tryd.prog 79 = some (.raw [.v .nilFunc]) := by kernel_rfl
theorem ty79 : ty Tryd.prog 79 = none := by kernel_rfl
theorem tsz80 : tsz Tryd.prog 80 = some 1 := by kernel_rfl
theorem tq80 : tq Tryd.prog 80 = some (1, 8, some 1) := by kernel_rfl
theorem zrow80 : zrow Tryd.prog 80 = some (.raw [.v .nilFunc]) := by kernel_rfl
theorem ty80 : ty Tryd.prog 80 = none := by kernel_rfl
theorem tsz81 : tsz Tryd.prog 81 = some 4 := by kernel_rfl
theorem tq81 : tq Tryd.prog 81 = some (4, 40, some 4) := by kernel_rfl
theorem zrow81 : zrow Tryd.prog 81 = some (.raw [.v (.pointer none), .v (.pointer none), .v (.pointer none), .v (.string ⟨#[]⟩)]) := by kernel_rfl
theorem zcells81 : zcells Tryd.prog 81 = some [.v (.pointer none), .v (.pointer none), .v (.pointer none), .v (.string ⟨#[]⟩)] := by kernel_rfl
theorem ty81 : ty Tryd.prog 81 = none := by kernel_rfl
theorem to81 : tyOf Tryd.prog 1 81 = none := by kernel_rfl
theorem fo81_0 : fo Tryd.prog 81 0 = some (0, 17) := by kernel_rfl
theorem fo81_1 : fo Tryd.prog 81 1 = some (1, 17) := by kernel_rfl
theorem fo81_2 : fo Tryd.prog 81 2 = some (2, 17) := by kernel_rfl
theorem fo81_3 : fo Tryd.prog 81 3 = some (3, 9) := by kernel_rfl
theorem stq81 : stq Tryd.prog 81 = some [(0, 1), (1, 1), (2, 1), (3, 1)] := by kernel_rfl
theorem tsz82 : tsz Tryd.prog 82 = some 4 := by kernel_rfl
theorem tq82 : tq Tryd.prog 82 = some (4, 40, some 4) := by kernel_rfl
theorem zrow82 : zrow Tryd.prog 82 = some (.raw [.v (.pointer none), .v (.pointer none), .v (.pointer none), .v (.string ⟨#[]⟩)]) := by kernel_rfl
theorem zcells82 : zcells Tryd.prog 82 = some [.v (.pointer none), .v (.pointer none), .v (.pointer none), .v (.string ⟨#[]⟩)] := by kernel_rfl
theorem ty82 : ty Tryd.prog 82 = none := by kernel_rfl
theorem to82 : tyOf Tryd.prog 1 82 = none := by kernel_rfl
theorem fo82_0 : fo Tryd.prog 82 0 = some (0, 17) := by kernel_rfl
theorem fo82_1 : fo Tryd.prog 82 1 = some (1, 17) := by kernel_rfl
theorem fo82_2 : fo Tryd.prog 82 2 = some (2, 17) := by kernel_rfl
theorem fo82_3 : fo Tryd.prog 82 3 = some (3, 9) := by kernel_rfl
theorem stq82 : stq Tryd.prog 82 = some [(0, 1), (1, 1), (2, 1), (3, 1)] := by kernel_rfl
theorem tsz83 : tsz Tryd.prog 83 = some 0 := by kernel_rfl
theorem tq83 : tq Tryd.prog 83 = some (0, 0, some 0) := by kernel_rfl
theorem zrow83 : zrow Tryd.prog 83 = some (.raw []) := by kernel_rfl
theorem zcells83 : zcells Tryd.prog 83 = some [] := by kernel_rfl
theorem ty83 : ty Tryd.prog 83 = none := by kernel_rfl
theorem to83 : tyOf Tryd.prog 1 83 = none := by kernel_rfl
theorem tsz84 : tsz Tryd.prog 84 = some 0 := by kernel_rfl
theorem tq84 : tq Tryd.prog 84 = some (0, 0, some 0) := by kernel_rfl
theorem zrow84 : zrow Tryd.prog 84 = some (.raw []) := by kernel_rfl
theorem zcells84 : zcells Tryd.prog 84 = some [] := by kernel_rfl
theorem ty84 : ty Tryd.prog 84 = none := by kernel_rfl
theorem to84 : tyOf Tryd.prog 1 84 = none := by kernel_rfl
theorem fo84_0 : fo Tryd.prog 84 0 = some (0, 83) := by kernel_rfl
theorem stq84 : stq Tryd.prog 84 = some [(0, 0)] := by kernel_rfl
theorem tsz85 : tsz Tryd.prog 85 = some 0 := by kernel_rfl
theorem tq85 : tq Tryd.prog 85 = some (0, 0, some 0) := by kernel_rfl
theorem zrow85 : zrow Tryd.prog 85 = some (.raw []) := by kernel_rfl
theorem zcells85 : zcells Tryd.prog 85 = some [] := by kernel_rfl
theorem ty85 : ty Tryd.prog 85 = none := by kernel_rfl
theorem to85 : tyOf Tryd.prog 1 85 = none := by kernel_rfl
theorem fo85_0 : fo Tryd.prog 85 0 = some (0, 83) := by kernel_rfl
theorem stq85 : stq Tryd.prog 85 = some [(0, 0)] := by kernel_rfl
theorem tsz86 : tsz Tryd.prog 86 = some 1 := by kernel_rfl
theorem tq86 : tq Tryd.prog 86 = some (1, 8, some 1) := by kernel_rfl
theorem zrow86 : zrow Tryd.prog 86 = some (.raw [.v .nilFunc]) := by kernel_rfl
theorem ty86 : ty Tryd.prog 86 = none := by kernel_rfl
theorem tsz87 : tsz Tryd.prog 87 = some 1 := by kernel_rfl
theorem tq87 : tq Tryd.prog 87 = some (1, 4, some 1) := by kernel_rfl
theorem zrow87 : zrow Tryd.prog 87 = some (.raw [.v (.int .u32 0)]) := by kernel_rfl
theorem ty87 : ty Tryd.prog 87 = some (.i .u32) := by kernel_rfl
theorem to87 : tyOf Tryd.prog 1 87 = some (.i .u32) := by kernel_rfl
theorem tsz88 : tsz Tryd.prog 88 = some 1 := by kernel_rfl
theorem tq88 : tq Tryd.prog 88 = some (1, 1, some 1) := by kernel_rfl
theorem zrow88 : zrow Tryd.prog 88 = some (.raw [.v (.int .u8 0)]) := by kernel_rfl
theorem ty88 : ty Tryd.prog 88 = some (.i .u8) := by kernel_rfl
theorem to88 : tyOf Tryd.prog 1 88 = some (.i .u8) := by kernel_rfl
theorem tsz89 : tsz Tryd.prog 89 = some 1 := by kernel_rfl
theorem tq89 : tq Tryd.prog 89 = some (1, 1, some 1) := by kernel_rfl
theorem zrow89 : zrow Tryd.prog 89 = some (.raw [.v (.int .u8 0)]) := by kernel_rfl
theorem ty89 : ty Tryd.prog 89 = some (.i .u8) := by kernel_rfl
theorem to89 : tyOf Tryd.prog 1 89 = some (.i .u8) := by kernel_rfl
theorem tsz90 : tsz Tryd.prog 90 = some 1 := by kernel_rfl
theorem tq90 : tq Tryd.prog 90 = some (1, 8, some 1) := by kernel_rfl
theorem zrow90 : zrow Tryd.prog 90 = some (.raw [.v .nilFunc]) := by kernel_rfl
theorem ty90 : ty Tryd.prog 90 = none := by kernel_rfl
theorem tsz91 : tsz Tryd.prog 91 = some 1 := by kernel_rfl
theorem tq91 : tq Tryd.prog 91 = some (1, 8, some 1) := by kernel_rfl
theorem zrow91 : zrow Tryd.prog 91 = some (.raw [.v (.pointer none)]) := by kernel_rfl
theorem ty91 : ty Tryd.prog 91 = none := by kernel_rfl
theorem to91 : tyOf Tryd.prog 1 91 = none := by kernel_rfl
theorem tsz92 : tsz Tryd.prog 92 = some 1 := by kernel_rfl
theorem tq92 : tq Tryd.prog 92 = some (1, 4, some 1) := by kernel_rfl
theorem zrow92 : zrow Tryd.prog 92 = some (.raw [.v (.int .i32 0)]) := by kernel_rfl
theorem ty92 : ty Tryd.prog 92 = some (.i .i32) := by kernel_rfl
theorem to92 : tyOf Tryd.prog 1 92 = some (.i .i32) := by kernel_rfl
theorem tsz93 : tsz Tryd.prog 93 = some 1 := by kernel_rfl
theorem tq93 : tq Tryd.prog 93 = some (1, 4, some 1) := by kernel_rfl
theorem zrow93 : zrow Tryd.prog 93 = some (.raw [.v (.int .i32 0)]) := by kernel_rfl
theorem ty93 : ty Tryd.prog 93 = some (.i .i32) := by kernel_rfl
theorem to93 : tyOf Tryd.prog 1 93 = some (.i .i32) := by kernel_rfl
theorem tsz94 : tsz Tryd.prog 94 = some 11 := by kernel_rfl
theorem tq94 : tq Tryd.prog 94 = some (11, 48, some 11) := by kernel_rfl
theorem zrow94 : zrow Tryd.prog 94 = some (.raw [.v (.int .u64 0), .v (.int .u64 0), .v (.int .u32 0), .v (.int .u8 0), .v (.int .u8 0), .v (.int .u8 0), .v (.int .u8 0), .v .nilFunc, .v (.pointer none), .v (.int .i32 0), .v (.int .i32 0)]) := by kernel_rfl
theorem zcells94 : zcells Tryd.prog 94 = some [.v (.int .u64 0), .v (.int .u64 0), .v (.int .u32 0), .v (.int .u8 0), .v (.int .u8 0), .v (.int .u8 0), .v (.int .u8 0), .v .nilFunc, .v (.pointer none), .v (.int .i32 0), .v (.int .i32 0)] := by kernel_rfl
theorem ty94 : ty Tryd.prog 94 = none := by kernel_rfl
theorem to94 : tyOf Tryd.prog 1 94 = none := by kernel_rfl
theorem fo94_0 : fo Tryd.prog 94 0 = some (0, 12) := by kernel_rfl
theorem fo94_1 : fo Tryd.prog 94 1 = some (1, 12) := by kernel_rfl
theorem fo94_2 : fo Tryd.prog 94 2 = some (2, 87) := by kernel_rfl
theorem fo94_3 : fo Tryd.prog 94 3 = some (3, 88) := by kernel_rfl
theorem fo94_4 : fo Tryd.prog 94 4 = some (4, 5) := by kernel_rfl
theorem fo94_5 : fo Tryd.prog 94 5 = some (5, 5) := by kernel_rfl
theorem fo94_6 : fo Tryd.prog 94 6 = some (6, 89) := by kernel_rfl
theorem fo94_7 : fo Tryd.prog 94 7 = some (7, 90) := by kernel_rfl
theorem fo94_8 : fo Tryd.prog 94 8 = some (8, 91) := by kernel_rfl
theorem fo94_9 : fo Tryd.prog 94 9 = some (9, 92) := by kernel_rfl
theorem fo94_10 : fo Tryd.prog 94 10 = some (10, 93) := by kernel_rfl
theorem stq94 : stq Tryd.prog 94 = some [(0, 1), (1, 1), (2, 1), (3, 1), (4, 1), (5, 1), (6, 1), (7, 1), (8, 1), (9, 1), (10, 1)] := by kernel_rfl
theorem tsz95 : tsz Tryd.prog 95 = some 11 := by kernel_rfl
theorem tq95 : tq Tryd.prog 95 = some (11, 48, some 11) := by kernel_rfl
theorem zrow95 : zrow Tryd.prog 95 = some (.raw [.v (.int .u64 0), .v (.int .u64 0), .v (.int .u32 0), .v (.int .u8 0), .v (.int .u8 0), .v (.int .u8 0), .v (.int .u8 0), .v .nilFunc, .v (.pointer none), .v (.int .i32 0), .v (.int .i32 0)]) := by kernel_rfl
theorem zcells95 : zcells Tryd.prog 95 = some [.v (.int .u64 0), .v (.int .u64 0), .v (.int .u32 0), .v (.int .u8 0), .v (.int .u8 0), .v (.int .u8 0), .v (.int .u8 0), .v .nilFunc, .v (.pointer none), .v (.int .i32 0), .v (.int .i32 0)] := by kernel_rfl
theorem ty95 : ty Tryd.prog 95 = none := by kernel_rfl
theorem to95 : tyOf Tryd.prog 1 95 = none := by kernel_rfl
theorem fo95_0 : fo Tryd.prog 95 0 = some (0, 12) := by kernel_rfl
theorem fo95_1 : fo Tryd.prog 95 1 = some (1, 12) := by kernel_rfl
theorem fo95_2 : fo Tryd.prog 95 2 = some (2, 87) := by kernel_rfl
theorem fo95_3 : fo Tryd.prog 95 3 = some (3, 88) := by kernel_rfl
theorem fo95_4 : fo Tryd.prog 95 4 = some (4, 5) := by kernel_rfl
theorem fo95_5 : fo Tryd.prog 95 5 = some (5, 5) := by kernel_rfl
theorem fo95_6 : fo Tryd.prog 95 6 = some (6, 89) := by kernel_rfl
theorem fo95_7 : fo Tryd.prog 95 7 = some (7, 90) := by kernel_rfl
theorem fo95_8 : fo Tryd.prog 95 8 = some (8, 91) := by kernel_rfl
theorem fo95_9 : fo Tryd.prog 95 9 = some (9, 92) := by kernel_rfl
theorem fo95_10 : fo Tryd.prog 95 10 = some (10, 93) := by kernel_rfl
theorem stq95 : stq Tryd.prog 95 = some [(0, 1), (1, 1), (2, 1), (3, 1), (4, 1), (5, 1), (6, 1), (7, 1), (8, 1), (9, 1), (10, 1)] := by kernel_rfl
attribute [go_sem] tsz1 tq1 zrow1 ty1 tsz2 tq2 zrow2 ty2 to2 tsz3 tq3 zrow3 ty3 to3 tsz4 tq4 zrow4 ty4 to4 tsz5 tq5 zrow5 ty5 to5 tsz6 tq6 zrow6 ty6 to6 tsz7 tq7 zrow7 zcells7 ty7 eqf7 to7 fo7_0 fo7_1 fo7_2 fo7_3 stq7 tsz8 tq8 zrow8 zcells8 ty8 eqf8 to8 fo8_0 fo8_1 fo8_2 fo8_3 stq8 tsz9 tq9 zrow9 ty9 sos9 to9 tsz10 tq10 zrow10 ty10 sos10 to10 tsz11 tq11 zrow11 ty11 sos11 to11 tsz12 tq12 zrow12 ty12 to12 tsz13 tq13 zrow13 zcells13 ty13 to13 fo13_0 fo13_1 stq13 tsz14 tq14 zrow14 zcells14 ty14 to14 fo14_0 fo14_1 stq14 tsz15 tq15 zrow15 ty15 to15 tsz16 tq16 zrow16 ty16 to16 tsz17 tq17 zrow17 ty17 to17 tsz18 tq18 zrow18 zcells18 ty18 to18 fo18_0 stq18 tsz19 tq19 zrow19 zcells19 ty19 to19 fo19_0 stq19 tsz21 tq21 zrow21 ty21 to21 tsz22 tq22 zrow22 ty22 sos22 to22 tsz23 tq23 zrow23 ty23 tsz24 tq24 zrow24 ty24 to24 tsz26 tq26 zrow26 ty26 tsz28 tq28 zrow28 ty28 tsz29 tq29 zrow29 ty29 tsz30 tq30 zrow30 ty30 tsz31 tq31 zrow31 ty31 tsz32 tq32 zrow32 ty32 tsz33 tq33 zrow33 ty33 tsz34 tq34 zrow34 ty34 tsz35 tq35 zrow35 ty35 to35 tsz36 tq36 zrow36 ty36 tsz37 tq37 zrow37 ty37 sos37 to37 tsz38 tq38 zrow38 ty38 tsz39 tq39 zrow39 ty39 tsz40 tq40 zrow40 ty40 tsz41 tq41 zrow41 ty41 tsz42 tq42 zrow42 ty42 tsz43 tq43 zrow43 ty43 eqg43 to43 tsz44 tq44 zrow44 ty44 eqg44 to44 tsz45 tq45 zrow45 ty45 to45 fo45_0 fo45_1 stq45 tsz46 tq46 zrow46 ty46 to46 fo46_0 fo46_1 stq46 tsz47 tq47 zrow47 ty47 to47 tsz48 tq48 zrow48 ty48 tsz49 tq49 zrow49 ty49 to49 tsz50 tq50 zrow50 ty50 to50 tsz52 tq52 zrow52 ty52 tsz53 tq53 zrow53 ty53 tsz54 tq54 zrow54 ty54 to54 tsz55 tq55 zrow55 ty55 tsz56 tq56 zrow56 ty56 to56 tsz57 tq57 zrow57 zcells57 ty57 eqf57 to57 fo57_0 fo57_1 stq57 tsz58 tq58 zrow58 zcells58 ty58 eqf58 to58 fo58_0 fo58_1 stq58 tsz59 tq59 zrow59 ty59 sos59 to59 tsz60 tq60 zrow60 ty60 tsz61 tq61 zrow61 ty61 tsz63 tq63 zrow63 ty63 tsz64 tq64 zrow64 ty64 tsz65 tq65 zrow65 ty65 tsz67 tq67 zrow67 ty67 tsz68 tq68 zrow68 ty68 tsz69 tq69 zrow69 ty69 tsz70 tq70 zrow70 ty70 tsz71 tq71 zrow71 ty71 tsz72 tq72 zrow72 ty72 tsz73 tq73 zrow73 ty73 tsz74 tq74 zrow74 ty74 eqg74 to74 tsz75 tq75 zrow75 zcells75 ty75 eqf75 to75 fo75_0 fo75_1 stq75 tsz76 tq76 zrow76 zcells76 ty76 eqf76 to76 fo76_0 fo76_1 stq76 tsz77 tq77 zrow77 zcells77 ty77 to77 tsz78 tq78 zrow78 ty78 tsz79 tq79 zrow79 ty79 tsz80 tq80 zrow80 ty80 tsz81 tq81 zrow81 zcells81 ty81 to81 fo81_0 fo81_1 fo81_2 fo81_3 stq81 tsz82 tq82 zrow82 zcells82 ty82 to82 fo82_0 fo82_1 fo82_2 fo82_3 stq82 tsz83 tq83 zrow83 zcells83 ty83 to83 tsz84 tq84 zrow84 zcells84 ty84 to84 fo84_0 stq84 tsz85 tq85 zrow85 zcells85 ty85 to85 fo85_0 stq85 tsz86 tq86 zrow86 ty86 tsz87 tq87 zrow87 ty87 to87 tsz88 tq88 zrow88 ty88 to88 tsz89 tq89 zrow89 ty89 to89 tsz90 tq90 zrow90 ty90 tsz91 tq91 zrow91 ty91 to91 tsz92 tq92 zrow92 ty92 to92 tsz93 tq93 zrow93 ty93 to93 tsz94 tq94 zrow94 zcells94 ty94 to94 fo94_0 fo94_1 fo94_2 fo94_3 fo94_4 fo94_5 fo94_6 fo94_7 fo94_8 fo94_9 fo94_10 stq94 tsz95 tq95 zrow95 zcells95 ty95 to95 fo95_0 fo95_1 fo95_2 fo95_3 fo95_4 fo95_5 fo95_6 fo95_7 fo95_8 fo95_9 fo95_10 stq95
attribute [go_sem] Tryd.underlying0 Tryd.underlying1 Tryd.underlying2 Tryd.underlying3 Tryd.underlying4 Tryd.underlying5 Tryd.underlying6 Tryd.underlying7 Tryd.underlying8 Tryd.underlying9 Tryd.underlying10 Tryd.underlying11 Tryd.underlying12 Tryd.underlying13 Tryd.underlying14 Tryd.underlying15 Tryd.underlying16 Tryd.underlying17 Tryd.underlying18 Tryd.underlying19 Tryd.underlying20 Tryd.underlying21 Tryd.underlying22 Tryd.underlying23 Tryd.underlying24 Tryd.underlying25 Tryd.underlying26 Tryd.underlying27 Tryd.underlying28 Tryd.underlying29 Tryd.underlying30 Tryd.underlying31 Tryd.underlying32 Tryd.underlying33 Tryd.underlying34 Tryd.underlying35 Tryd.underlying36 Tryd.underlying37 Tryd.underlying38 Tryd.underlying39 Tryd.underlying40 Tryd.underlying41 Tryd.underlying42 Tryd.underlying43 Tryd.underlying44 Tryd.underlying45 Tryd.underlying46 Tryd.underlying47 Tryd.underlying48 Tryd.underlying49 Tryd.underlying50 Tryd.underlying51 Tryd.underlying52 Tryd.underlying53 Tryd.underlying54 Tryd.underlying55 Tryd.underlying56 Tryd.underlying57 Tryd.underlying58 Tryd.underlying59 Tryd.underlying60 Tryd.underlying61 Tryd.underlying62 Tryd.underlying63 Tryd.underlying64 Tryd.underlying65 Tryd.underlying66 Tryd.underlying67 Tryd.underlying68 Tryd.underlying69 Tryd.underlying70 Tryd.underlying71 Tryd.underlying72 Tryd.underlying73 Tryd.underlying74 Tryd.underlying75 Tryd.underlying76 Tryd.underlying77 Tryd.underlying78 Tryd.underlying79 Tryd.underlying80 Tryd.underlying81 Tryd.underlying82 Tryd.underlying83 Tryd.underlying84 Tryd.underlying85 Tryd.underlying86 Tryd.underlying87 Tryd.underlying88 Tryd.underlying89 Tryd.underlying90 Tryd.underlying91 Tryd.underlying92 Tryd.underlying93 Tryd.underlying94 Tryd.underlying95 Tryd.underlying96
end Go.Proofs.YtggomleegbnhbaaDoor
