import Derived.Test.YtbdnhoddkdiogaaMk7
import Derived.Test.YtbdnhoddkdiogaaSh6
set_option linter.unusedSimpArgs false
set_option linter.unusedVariables false
namespace Go.Proofs.Ytbdnhoddkdiogaa
open Go.RowKit
/-! The digest, reckoned strictly. -/
def fN {α : Type} (n : Nat) (k : Nat → α) : α := Nat.rec (k 0) (fun m _ => k (m + 1)) n
theorem fN_eq {α : Type} (n : Nat) (k : Nat → α) : fN n k = k n := by cases n <;> rfl
def fI {α : Type} (x : Int) (k : Int → α) : α := match x with | .ofNat n => fN n fun n => k (.ofNat n) | .negSucc n => k (.negSucc n)
theorem fI_eq {α : Type} (x : Int) (k : Int → α) : fI x k = k x := by cases x <;> simp [fI, fN_eq]
def fL {α : Type} : List Int → (List Int → α) → α
  | [], k => k []
  | x :: xs, k => fI x fun x => fL xs fun xs => k (x :: xs)
theorem fL_eq {α : Type} : ∀ (xs : List Int) (k : List Int → α), fL xs k = k xs
  | [], k => rfl
  | x :: xs, k => by rw [fL, fI_eq, fL_eq xs]
def schedK {α : Type} (xs : List Int) : Nat → (List Int → α) → α
  | 0, k => k []
  | n + 1, k => schedK xs n fun l => fI (Sha.next xs l n) fun v => fL (l ++ [v]) k
theorem schedK_eq {α : Type} (xs : List Int) : ∀ (n : Nat) (k : List Int → α), schedK xs n k = k (Sha.sched xs n)
  | 0, k => rfl
  | n + 1, k => by rw [schedK, schedK_eq xs n, fI_eq, fL_eq]; rfl
def mixedK {α : Type} (h wl kl : List Int) : Nat → (List Int → α) → α
  | 0, k => k h
  | n + 1, k => mixedK h wl kl n fun s => fL (Sha.step s (kl.getD n 0) (wl.getD n 0)) k
theorem mixedK_eq {α : Type} (h wl kl : List Int) : ∀ (n : Nat) (k : List Int → α), mixedK h wl kl n k = k (Sha.mixed h wl kl n)
  | 0, k => rfl
  | n + 1, k => by rw [mixedK, mixedK_eq h wl kl n, fL_eq]; rfl
def hashesK {α : Type} (t : List Int) : Nat → (List Int → α) → α
  | 0, k => k Sha.start
  | m + 1, k => hashesK t m fun h => fL (t.drop (64 * m)) fun b => schedK b 64 fun w => mixedK h w Sha.rounds 64 fun s => fL (Sha.add s h) k
theorem hashesK_eq {α : Type} (t : List Int) : ∀ (n : Nat) (k : List Int → α), hashesK t n k = k (Sha.hashes t n)
  | 0, k => rfl
  | n + 1, k => by rw [hashesK, hashesK_eq t n, fL_eq, schedK_eq, mixedK_eq, fL_eq]; rfl
def ofK {α : Type} (xs : List Int) (k : List Int → α) : α := fL (Sha.text xs) fun t => hashesK t (t.length / 64) fun h => fL (Sha.outs h 32) k
theorem ofK_eq {α : Type} (xs : List Int) (k : List Int → α) : ofK xs k = k (dg xs) := by
  unfold ofK; rw [fL_eq, hashesK_eq, fL_eq, dg_eq]; rfl
theorem empty_hex : ofK [] (fun d => decide (d = [227, 176, 196, 66, 152, 252, 28, 20, 154, 251, 244, 200, 153, 111, 185, 36, 39, 174, 65, 228, 100, 155, 147, 76, 164, 149, 153, 27, 120, 82, 184, 85])) = true := by decide +kernel
end Go.Proofs.Ytbdnhoddkdiogaa
