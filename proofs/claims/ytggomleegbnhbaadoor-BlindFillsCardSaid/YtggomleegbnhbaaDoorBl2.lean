import Derived.Test.YtggomleegbnhbaaDoorBl1
import Derived.Test.YtggomleegbnhbaaDoorAi5
set_option linter.unusedSimpArgs false
set_option linter.unusedVariables false
namespace Go.Proofs.YtggomleegbnhbaaDoor
open Go.RowKit
/-! The field's tables. -/
abbrev FT : Ty := .pr (.ar 510 (.i .u8)) (.ar 256 (.i .i64))
def expT : List Int := [1, 3, 5, 15, 17, 51, 85, 255, 26, 46, 114, 150, 161, 248, 19, 53, 95, 225, 56, 72, 216, 115, 149, 164, 247, 2, 6, 10, 30, 34, 102, 170, 229, 52, 92, 228, 55, 89, 235, 38, 106, 190, 217, 112, 144, 171, 230, 49, 83, 245, 4, 12, 20, 60, 68, 204, 79, 209, 104, 184, 211, 110, 178, 205, 76, 212, 103, 169, 224, 59, 77, 215, 98, 166, 241, 8, 24, 40, 120, 136, 131, 158, 185, 208, 107, 189, 220, 127, 129, 152, 179, 206, 73, 219, 118, 154, 181, 196, 87, 249, 16, 48, 80, 240, 11, 29, 39, 105, 187, 214, 97, 163, 254, 25, 43, 125, 135, 146, 173, 236, 47, 113, 147, 174, 233, 32, 96, 160, 251, 22, 58, 78, 210, 109, 183, 194, 93, 231, 50, 86, 250, 21, 63, 65, 195, 94, 226, 61, 71, 201, 64, 192, 91, 237, 44, 116, 156, 191, 218, 117, 159, 186, 213, 100, 172, 239, 42, 126, 130, 157, 188, 223, 122, 142, 137, 128, 155, 182, 193, 88, 232, 35, 101, 175, 234, 37, 111, 177, 200, 67, 197, 84, 252, 31, 33, 99, 165, 244, 7, 9, 27, 45, 119, 153, 176, 203, 70, 202, 69, 207, 74, 222, 121, 139, 134, 145, 168, 227, 62, 66, 198, 81, 243, 14, 18, 54, 90, 238, 41, 123, 141, 140, 143, 138, 133, 148, 167, 242, 13, 23, 57, 75, 221, 124, 132, 151, 162, 253, 28, 36, 108, 180, 199, 82, 246, 1, 3, 5, 15, 17, 51, 85, 255, 26, 46, 114, 150, 161, 248, 19, 53, 95, 225, 56, 72, 216, 115, 149, 164, 247, 2, 6, 10, 30, 34, 102, 170, 229, 52, 92, 228, 55, 89, 235, 38, 106, 190, 217, 112, 144, 171, 230, 49, 83, 245, 4, 12, 20, 60, 68, 204, 79, 209, 104, 184, 211, 110, 178, 205, 76, 212, 103, 169, 224, 59, 77, 215, 98, 166, 241, 8, 24, 40, 120, 136, 131, 158, 185, 208, 107, 189, 220, 127, 129, 152, 179, 206, 73, 219, 118, 154, 181, 196, 87, 249, 16, 48, 80, 240, 11, 29, 39, 105, 187, 214, 97, 163, 254, 25, 43, 125, 135, 146, 173, 236, 47, 113, 147, 174, 233, 32, 96, 160, 251, 22, 58, 78, 210, 109, 183, 194, 93, 231, 50, 86, 250, 21, 63, 65, 195, 94, 226, 61, 71, 201, 64, 192, 91, 237, 44, 116, 156, 191, 218, 117, 159, 186, 213, 100, 172, 239, 42, 126, 130, 157, 188, 223, 122, 142, 137, 128, 155, 182, 193, 88, 232, 35, 101, 175, 234, 37, 111, 177, 200, 67, 197, 84, 252, 31, 33, 99, 165, 244, 7, 9, 27, 45, 119, 153, 176, 203, 70, 202, 69, 207, 74, 222, 121, 139, 134, 145, 168, 227, 62, 66, 198, 81, 243, 14, 18, 54, 90, 238, 41, 123, 141, 140, 143, 138, 133, 148, 167, 242, 13, 23, 57, 75, 221, 124, 132, 151, 162, 253, 28, 36, 108, 180, 199, 82, 246]
def logT : List Int := [0, 0, 25, 1, 50, 2, 26, 198, 75, 199, 27, 104, 51, 238, 223, 3, 100, 4, 224, 14, 52, 141, 129, 239, 76, 113, 8, 200, 248, 105, 28, 193, 125, 194, 29, 181, 249, 185, 39, 106, 77, 228, 166, 114, 154, 201, 9, 120, 101, 47, 138, 5, 33, 15, 225, 36, 18, 240, 130, 69, 53, 147, 218, 142, 150, 143, 219, 189, 54, 208, 206, 148, 19, 92, 210, 241, 64, 70, 131, 56, 102, 221, 253, 48, 191, 6, 139, 98, 179, 37, 226, 152, 34, 136, 145, 16, 126, 110, 72, 195, 163, 182, 30, 66, 58, 107, 40, 84, 250, 133, 61, 186, 43, 121, 10, 21, 155, 159, 94, 202, 78, 212, 172, 229, 243, 115, 167, 87, 175, 88, 168, 80, 244, 234, 214, 116, 79, 174, 233, 213, 231, 230, 173, 232, 44, 215, 117, 122, 235, 22, 11, 245, 89, 203, 95, 176, 156, 169, 81, 160, 127, 12, 246, 111, 23, 196, 73, 236, 216, 67, 31, 45, 164, 118, 123, 183, 204, 187, 62, 90, 251, 96, 177, 134, 59, 82, 161, 108, 170, 85, 41, 157, 151, 178, 135, 144, 97, 190, 220, 252, 188, 149, 207, 205, 55, 63, 91, 209, 83, 57, 132, 60, 65, 162, 109, 71, 20, 42, 158, 93, 86, 242, 211, 171, 68, 17, 146, 217, 35, 32, 46, 137, 180, 124, 184, 38, 119, 153, 227, 165, 103, 74, 237, 222, 197, 49, 254, 24, 13, 99, 140, 128, 192, 247, 112, 7]
abbrev Tab : FT.D := (expT, logT)
set_option maxRecDepth 1000000
theorem exp_len : expT.length = 510 := by decide +kernel
theorem log_len : logT.length = 256 := by decide +kernel
theorem exp_ok : ∀ x ∈ expT, 0 ≤ x ∧ x < 256 := by decide +kernel
theorem log_ok : ∀ x ∈ logT, 0 ≤ x ∧ x ≤ 254 := by decide +kernel
theorem FT_sz : FT.sz = 766 := rfl
theorem at_FT (T : FT.D) (i j : Nat) : Row.at (.ty FT [T]) i 1 j = enc FT T (i + j) := by
  show Row.at0 (.ty FT [T]) i (if i = 0 then 766 else 1) j = _
  by_cases h : i = 0
  · subst h
    rw [if_pos rfl, Nat.zero_add]
    simp only [Row.at0, FT_sz, if_true, List.getElem?_cons_zero]
  · rw [if_neg h]
    simp only [Row.at0, FT_sz, Nat.mul_one]
    rw [if_neg (by decide)]
theorem put_FT (T : FT.D) (i j : Nat) (c : CV) : Row.put (.ty FT [T]) i 1 j c = (setD FT T (i + j) c).map fun y => .ty FT [y] := by
  show Row.put0 (.ty FT [T]) i (if i = 0 then 766 else 1) j c = _
  by_cases h : i = 0
  · subst h
    rw [if_pos rfl, Nat.zero_add]
    simp only [Row.put0, FT_sz, if_true, List.getElem?_cons_zero, List.set_cons_zero]
  · rw [if_neg h]
    simp only [Row.put0, FT_sz, Nat.mul_one]
    rw [if_neg (by decide)]
theorem at_exp {T : FT.D} {i : Nat} {v : Int} (hi : i < 510) (h : T.1[i]? = some v) : Row.at (.ty FT [T]) i 1 0 = some (.v (.int .u8 v)) := by
  rw [at_FT]
  show (if i + 0 < 510 * 1 then enc (.ar 510 (.i .u8)) T.1 (i + 0) else _) = _
  rw [if_pos (by omega)]
  simp only [enc, Ty.sz, Nat.add_zero, Nat.div_one, Nat.mod_one, h, if_true]
theorem at_log {T : FT.D} {i : Nat} {v : Int} (h : T.2[i]? = some v) : Row.at (.ty FT [T]) i 1 510 = some (.v (.int .i64 v)) := by
  rw [at_FT]
  show (if i + 510 < 510 * 1 then _ else enc (.ar 256 (.i .i64)) T.2 (i + 510 - 510 * 1)) = _
  rw [if_neg (by omega), show i + 510 - 510 * 1 = i by omega]
  simp only [enc, Ty.sz, Nat.div_one, Nat.mod_one, h, if_true]
theorem put_exp {T : FT.D} {i : Nat} {v : Int} (hi : i < 510) (hl : i < T.1.length) : Row.put (.ty FT [T]) i 1 0 (.v (.int .u8 v)) = some (.ty FT [(T.1.set i v, T.2)]) := by
  rw [put_FT]
  show Option.map _ (if i + 0 < 510 * 1 then (setD (.ar 510 (.i .u8)) T.1 (i + 0) (.v (.int .u8 v))).map _ else _) = _
  rw [if_pos (by omega)]
  simp only [setD, Ty.sz, Nat.add_zero, Nat.div_one, Nat.mod_one, List.getElem?_eq_getElem hl, leaf, if_true, Option.map_some]
theorem put_log {T : FT.D} {i : Nat} {v : Int} (hl : i < T.2.length) : Row.put (.ty FT [T]) i 1 510 (.v (.int .i64 v)) = some (.ty FT [(T.1, T.2.set i v)]) := by
  rw [put_FT]
  show Option.map _ (if i + 510 < 510 * 1 then _ else (setD (.ar 256 (.i .i64)) T.2 (i + 510 - 510 * 1) (.v (.int .i64 v))).map _) = _
  rw [if_neg (by omega), show i + 510 - 510 * 1 = i by omega]
  simp only [setD, Ty.sz, Nat.div_one, Nat.mod_one, List.getElem?_eq_getElem hl, leaf, if_true, Option.map_some]
/-! How they are made. -/
def stepX (x : Int) : Int := let y := bits .xor .i64 x (x * 2); if 256 ≤ y then bits .xor .i64 y 283 else y
def pw : Nat → Int
  | 0 => 1
  | n + 1 => stepX (pw n)
def tabs : Nat → FT.D
  | 0 => (List.replicate 510 0, List.replicate 256 0)
  | n + 1 => (((tabs n).1.set n (pw n)).set (n + 255) (pw n), (tabs n).2.set (pw n).toNat n)
theorem tabs_len : ∀ n, (tabs n).1.length = 510 ∧ (tabs n).2.length = 256
  | 0 => ⟨List.length_replicate, List.length_replicate⟩
  | n + 1 => by have := tabs_len n; exact ⟨by simp [tabs, this.1], by simp [tabs, this.2]⟩
theorem pw_ok : ∀ n : Fin 255, 1 ≤ pw n ∧ pw n < 256 := by decide +kernel
theorem tabs_all : tabs 255 = Tab := by decide +kernel
end Go.Proofs.YtggomleegbnhbaaDoor
