/- The document's constants, reckoned; its turning. -/
import Derived.Test.YtbdnhoddkdiogaaPShaDigestsx2
import Derived.Test.YtbdnhoddkdiogaaSh5
import Derived.Test.YtbdnhoddkdiogaaShK
import Derived.Test.YtbdnhoddkdiogaaShG
set_option linter.unusedSimpArgs false
set_option linter.unusedVariables false
namespace Go.Proofs.Ytbdnhoddkdiogaa
open Go.RowKit Go.Proofs.YtbdnhoddkdiogaaW.PrintWords

def primes64 : List Int := [2, 3, 5, 7, 11, 13, 17, 19, 23, 29, 31, 37, 41, 43, 47, 53, 59, 61, 67, 71, 73, 79, 83, 89, 97, 101, 103, 107, 109, 113, 127, 131, 137, 139, 149, 151, 157, 163, 167, 173, 179, 181, 191, 193, 197, 199, 211, 223, 227, 229, 233, 239, 241, 251, 257, 263, 269, 271, 277, 281, 283, 293, 307, 311]
set_option maxRecDepth 1000000 in
theorem primes_f : PShaDigests.shroudref10_primes.f 20000 64 = some primes64 := by decide +kernel
set_option maxRecDepth 1000000 in
theorem square_f : ∀ i, i < 8 → PShaDigests.shroudref10_square.f 100 (primes64.getD i 0) = some (Sha.start.getD i 0) := by decide +kernel
set_option maxRecDepth 1000000 in
theorem cube_f : ∀ i, i < 64 → PShaDigests.shroudref10_cube.f 100 (primes64.getD i 0) = some (Sha.rounds.getD i 0) := by decide +kernel

theorem square_at (i : Nat) (hi : i < 8) (p : Int) (hp : p = primes64.getD i 0) (w : World) : Calls Try.prog 44 #[.int .u64 p] w fun e w' => e = .returned (.int .u32 (Sha.start.getD i 0)) ∧ Below w.heap.size w w' :=
  PShaDigests.shroudref10_square.calls 100 p _ w (hp ▸ square_f i hi)
theorem cube_at (i : Nat) (hi : i < 64) (p : Int) (hp : p = primes64.getD i 0) (w : World) : Calls Try.prog 45 #[.int .u64 p] w fun e w' => e = .returned (.int .u32 (Sha.rounds.getD i 0)) ∧ Below w.heap.size w w' :=
  PShaDigests.shroudref10_cube.calls 100 p _ w (hp ▸ cube_f i hi)
theorem primes_any (w : World) : Calls Try.prog 43 #[.int .i64 64] w fun e w' => ∃ g cap, e = .returned (.slice (some ⟨g, 0, none⟩) 64 cap) ∧ g < w'.heap.size ∧ w.heap.size ≤ g ∧
    (∀ i, i < 64 → w'.cell? ⟨g, i, none⟩ = some (.int .u64 (primes64.getD i 0))) ∧ Below w.heap.size w w' := by
  refine (PShaDigests.shroudref10_primes.calls 20000 64 primes64 w primes_f).mono ?_
  rintro e w' ⟨v, rfl, hR, hb⟩
  have ho : OwnK .u64 56 w.heap.size w' v primes64 := Kd.own_of_R hR
  obtain ⟨g, cap, rfl, h1, h2, h3, h4, h5⟩ := ho.reads (by decide)
  exact ⟨g, cap, rfl, h2, h1, h5, hb⟩

end Go.Proofs.Ytbdnhoddkdiogaa
