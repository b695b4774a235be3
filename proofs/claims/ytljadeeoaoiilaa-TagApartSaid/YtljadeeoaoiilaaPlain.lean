/- Plain words on texts as lists of bytes: letters, digits, cases, classes; no program in sight. No condition. -/
import Derived.Laws.Strings
/- Plain words on bytes, letters, digits and cases. -/
namespace Go.Proofs.Ytljadeeoaoiilaa.Iso
abbrev Str := List UInt8
/-- A text's bytes, and back. -/
def bl (s : ByteArray) : Str := s.data.toList
def mk (l : Str) : ByteArray := ⟨l.toArray⟩
theorem bl_mk (l : Str) : bl (mk l) = l := id rfl
theorem mk_bl (s : ByteArray) : mk (bl s) = s := by cases s; rfl
theorem bl_len (s : ByteArray) : (bl s).length = s.size := id rfl
theorem mk_size (l : Str) : (mk l).size = l.length := id rfl
theorem bl_inj {a b : ByteArray} (h : bl a = bl b) : a = b := by rw [← mk_bl a, h, mk_bl]
theorem mk_inj {a b : Str} (h : mk a = mk b) : a = b := by rw [← bl_mk a, h, bl_mk]
theorem bl_toList (s : ByteArray) : s.toList = bl s := Go.ByteArray.toList_eq s
theorem bl_extract (s : ByteArray) (a b : Nat) : bl (s.extract a b) = ((bl s).drop a).take (b - a) := by
  unfold bl
  rw [ByteArray.data_extract, Array.toList_extract, List.extract_eq_take_drop]

/-! ### letters and digits -/
def isUp (c : UInt8) : Bool := 65 ≤ c.toNat && c.toNat ≤ 90
def isLow (c : UInt8) : Bool := 97 ≤ c.toNat && c.toNat ≤ 122
def isAl (c : UInt8) : Bool := isUp c || isLow c
def isDg (c : UInt8) : Bool := 48 ≤ c.toNat && c.toNat ≤ 57
def lowC (c : UInt8) : UInt8 := if isUp c then c + 32 else c
def upC (c : UInt8) : UInt8 := if isLow c then c - 32 else c
def low (s : Str) : Str := s.map lowC
def up (s : Str) : Str := s.map upC
def title : Str → Str
  | [] => []
  | c :: t => upC c :: low t
def isAlnum (c : UInt8) : Bool := isAl c || isDg c
/-- Class: 1 letters, 2 digits, 3 both, 0 else. -/
def cls (s : Str) : Nat := if s = [] then 0 else if s.all isAlnum then (if s.all isAl then 1 else if s.all isDg then 2 else 3) else 0
/-- What is told of every byte is told of 256. -/
theorem byte_all (p : UInt8 → Bool) (h : ∀ n, n < 256 → p (UInt8.ofNat n) = true) (c : UInt8) : p c = true := by
  have := h c.toNat c.toNat_lt
  rwa [UInt8.ofNat_toNat] at this
theorem low_low (s : Str) : low (low s) = low s := by
  unfold low
  rw [List.map_map]
  refine List.map_congr_left fun c _ => ?_
  exact of_decide_eq_true (byte_all (fun c => decide (lowC (lowC c) = lowC c)) (by decide +kernel) c)
end Go.Proofs.Ytljadeeoaoiilaa.Iso
