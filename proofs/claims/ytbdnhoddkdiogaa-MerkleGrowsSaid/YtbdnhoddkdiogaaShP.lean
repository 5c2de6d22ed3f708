/- Plain law: the digest, on lists of numbers. No program in sight. -/
import Derived.RowKit
import Derived.Laws.BitsAllLaws
namespace Go.Proofs.Ytbdnhoddkdiogaa.Sha
open Go.RowKit

/-- Numbers as the cells of an array of 32-bit words, and of bytes. -/
def words (l : List Int) : Array Value := (l.map (Value.int .u32)).toArray
def bytes (l : List Int) : Array Value := (l.map (Value.int .u8)).toArray
theorem words_size (l : List Int) : (words l).size = l.length := by simp [words]
theorem bytes_size (l : List Int) : (bytes l).size = l.length := by simp [bytes]
theorem words_one (l : List Int) : (words l).all (·.oneCell') = true := by
  rw [Array.all_eq_true_iff_forall_mem]
  intro v hv
  simp [words] at hv
  obtain ⟨a, _, rfl⟩ := hv
  rfl
theorem bytes_one (l : List Int) : (bytes l).all (·.oneCell') = true := by
  rw [Array.all_eq_true_iff_forall_mem]
  intro v hv
  simp [bytes] at hv
  obtain ⟨a, _, rfl⟩ := hv
  rfl

/-- Turned to the right: by so many places, m = 2 ^ (32 - places), d = 2 ^ places. -/
def rot (m d : Int) (x : Int) : Int := bits .or .u32 (x * m % 4294967296) (x / d)

/-- The word that stands in bytes 4 i to 4 i + 3. -/
def word (xs : List Int) (i : Nat) : Int := ((xs.getD (4 * i) 0 * 256 + xs.getD (4 * i + 1) 0) * 256 + xs.getD (4 * i + 2) 0) * 256 + xs.getD (4 * i + 3) 0
def sig0 (x : Int) : Int := bits .xor .u32 (bits .xor .u32 (rot 33554432 128 x) (rot 16384 262144 x)) (x / 8)
def sig1 (x : Int) : Int := bits .xor .u32 (bits .xor .u32 (rot 32768 131072 x) (rot 8192 524288 x)) (x / 1024)
/-- The words behind those that there are. -/
def next (xs : List Int) (l : List Int) (i : Nat) : Int :=
  if i < 16 then word xs i else (l.getD (i - 16) 0 + l.getD (i - 7) 0 + sig0 (l.getD (i - 15) 0) + sig1 (l.getD (i - 2) 0)) % 4294967296
def sched (xs : List Int) : Nat → List Int
  | 0 => []
  | n + 1 => sched xs n ++ [next xs (sched xs n) n]
theorem sched_length (xs : List Int) (n : Nat) : (sched xs n).length = n := by
  induction n with
  | zero => rfl
  | succ n ih => simp [sched, ih]
def pad (l : List Int) (n : Nat) : List Int := l ++ List.replicate (n - l.length) 0

/-- One round of the mixing. -/
def one (s : List Int) (k w : Int) : Int := (s.getD 7 0 + bits .xor .u32 (bits .xor .u32 (rot 67108864 64 (s.getD 4 0)) (rot 2097152 2048 (s.getD 4 0))) (rot 128 33554432 (s.getD 4 0)) + bits .xor .u32 (bits .and .u32 (s.getD 4 0) (s.getD 5 0)) (bits .and .u32 (bits .xor .u32 IntKind.u32.max (s.getD 4 0)) (s.getD 6 0)) + k + w) % 4294967296
def two (s : List Int) : Int := (bits .xor .u32 (bits .xor .u32 (rot 1073741824 4 (s.getD 0 0)) (rot 524288 8192 (s.getD 0 0))) (rot 1024 4194304 (s.getD 0 0)) + bits .xor .u32 (bits .xor .u32 (bits .and .u32 (s.getD 0 0) (s.getD 1 0)) (bits .and .u32 (s.getD 0 0) (s.getD 2 0))) (bits .and .u32 (s.getD 1 0) (s.getD 2 0))) % 4294967296
def step (s : List Int) (k w : Int) : List Int :=
  [(one s k w + two s) % 4294967296, s.getD 0 0, s.getD 1 0, s.getD 2 0, (s.getD 3 0 + one s k w) % 4294967296, s.getD 4 0, s.getD 5 0, s.getD 6 0]
def mixed (h wl kl : List Int) : Nat → List Int
  | 0 => h
  | n + 1 => step (mixed h wl kl n) (kl.getD n 0) (wl.getD n 0)
def add (s k0 : List Int) : List Int := (List.range 8).map fun i => (s.getD i 0 + k0.getD i 0) % 4294967296
def mix (h k0 wl kl : List Int) : List Int := add (mixed h wl kl 64) k0

def zeros8 : List Int := List.replicate 8 0
def zeros64 : List Int := List.replicate 64 0
def start : List Int := [1779033703, 3144134277, 1013904242, 2773480762, 1359893119, 2600822924, 528734635, 1541459225]
def rounds : List Int := [1116352408, 1899447441, 3049323471, 3921009573, 961987163, 1508970993, 2453635748, 2870763221, 3624381080, 310598401, 607225278, 1426881987, 1925078388, 2162078206, 2614888103, 3248222580, 3835390401, 4022224774, 264347078, 604807628, 770255983, 1249150122, 1555081692, 1996064986, 2554220882, 2821834349, 2952996808, 3210313671, 3336571891, 3584528711, 113926993, 338241895, 666307205, 773529912, 1294757372, 1396182291, 1695183700, 1986661051, 2177026350, 2456956037, 2730485921, 2820302411, 3259730800, 3345764771, 3516065817, 3600352804, 4094571909, 275423344, 430227734, 506948616, 659060556, 883997877, 958139571, 1322822218, 1537002063, 1747873779, 1955562222, 2024104815, 2227730452, 2361852424, 2428436474, 2756734187, 3204031479, 3329325298]

end Go.Proofs.Ytbdnhoddkdiogaa.Sha
