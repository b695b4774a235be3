/- Plain words on texts as lists of bytes: letters, digits, cases, classes, pieces; no program in sight. No condition. -/
import Derived.Lib.Bytealg
import Derived.Laws.Strings
namespace Go.Proofs.Ytljadeeoaoiilaa.Iso
abbrev Str := List UInt8
def bl (s : ByteArray) : Str := s.data.toList
def mk (l : Str) : ByteArray := ⟨l.toArray⟩
theorem bl_mk (l : Str) : bl (mk l) = l := id rfl
theorem mk_bl (s : ByteArray) : mk (bl s) = s := by cases s; rfl
theorem bl_len (s : ByteArray) : (bl s).length = s.size := id rfl
theorem mk_size (l : Str) : (mk l).size = l.length := id rfl
theorem bl_inj {a b : ByteArray} (h : bl a = bl b) : a = b := by rw [← mk_bl a, h, mk_bl]
theorem bl_extract (s : ByteArray) (a b : Nat) : bl (s.extract a b) = ((bl s).drop a).take (b - a) := by
  unfold bl
  rw [ByteArray.data_extract, Array.toList_extract, List.extract_eq_take_drop]
def isUp (c : UInt8) : Bool := 65 ≤ c.toNat && c.toNat ≤ 90
def isLow (c : UInt8) : Bool := 97 ≤ c.toNat && c.toNat ≤ 122
def isAl (c : UInt8) : Bool := isUp c || isLow c
def isDg (c : UInt8) : Bool := 48 ≤ c.toNat && c.toNat ≤ 57
def lowC (c : UInt8) : UInt8 := if isUp c then c + 32 else c
def upC (c : UInt8) : UInt8 := if isLow c then c - 32 else c
def low (s : Str) : Str := s.map lowC
def up (s : Str) : Str := s.map upC
def title : Str → Str
  | [] => []
  | c :: t => upC c :: low t
def isAlnum (c : UInt8) : Bool := isAl c || isDg c
def cls (s : Str) : Nat := if s = [] then 0 else if s.all isAlnum then (if s.all isAl then 1 else if s.all isDg then 2 else 3) else 0
theorem byte_all (p : UInt8 → Bool) (h : ∀ n, n < 256 → p (UInt8.ofNat n) = true) (c : UInt8) : p c = true := by
  have := h c.toNat c.toNat_lt
  rwa [UInt8.ofNat_toNat] at this
end Go.Proofs.Ytljadeeoaoiilaa.Iso
namespace Go.Proofs.Ytljadeeoaoiilaa.Iso
def eachGo (a : Nat) (acc : Str) : Str → List (Nat × Str)
  | [] => [(a, acc)]
  | c :: t => if c = 45 then (a, acc) :: eachGo (a + acc.length + 1) [] t else eachGo a (acc ++ [c]) t
def each (s : Str) : List (Nat × Str) := eachGo 0 [] s
theorem eachGo_length : ∀ (l : Str) (a : Nat) (acc : Str), (eachGo a acc l).length ≤ l.length + 1
  | [], _, _ => by simp [eachGo]
  | c :: t, a, acc => by
    unfold eachGo
    split
    · have := eachGo_length t (a + acc.length + 1) []; simp only [List.length_cons]; omega
    · have := eachGo_length t a (acc ++ [c]); simp only [List.length_cons]; omega
def split (s : Str) : List Str := (each s).map (·.2)
end Go.Proofs.Ytljadeeoaoiilaa.Iso
