/- Plain words on texts as lists of bytes: letters, digits, cases, classes, pieces; no program in sight. No condition. -/
import Derived.Lib.Bytealg
import Derived.Laws.Strings
namespace Go.Proofs.YtljadeeoaoiilaaGreatDoor.Iso
abbrev Str := List UInt8
def bl (s : ByteArray) : Str := s.data.toList
def mk (l : Str) : ByteArray := ⟨l.toArray⟩
theorem bl_mk (l : Str) : bl (mk l) = l := id rfl
theorem mk_bl (s : ByteArray) : mk (bl s) = s := by cases s; rfl
theorem bl_len (s : ByteArray) : (bl s).length = s.size := id rfl
theorem mk_size (l : Str) : (mk l).size = l.length := id rfl
theorem bl_inj {a b : ByteArray} (h : bl a = bl b) : a = b := by rw [← mk_bl a, h, mk_bl]
theorem bl_toList (s : ByteArray) : s.toList = bl s := Go.ByteArray.toList_eq s
theorem bl_extract (s : ByteArray) (a b : Nat) : bl (s.extract a b) = ((bl s).drop a).take (b - a) := by
  unfold bl
  rw [ByteArray.data_extract, Array.toList_extract, List.extract_eq_take_drop]
def isUp (c : UInt8) : Bool := 65 ≤ c.toNat && c.toNat ≤ 90
def isLow (c : UInt8) : Bool := 97 ≤ c.toNat && c.toNat ≤ 122
def isAl (c : UInt8) : Bool := isUp c || isLow c
def isDg (c : UInt8) : Bool := 48 ≤ c.toNat && c.toNat ≤ 57
def lowC (c : UInt8) : UInt8 := if isUp c then c + 32 else c
def upC (c : UInt8) : UInt8 := if isLow c then c - 32 else c
def low (s : Str) : Str := s.map lowC
def up (s : Str) : Str := s.map upC
def title : Str → Str
  | [] => []
  | c :: t => upC c :: low t
def isAlnum (c : UInt8) : Bool := isAl c || isDg c
def cls (s : Str) : Nat := if s = [] then 0 else if s.all isAlnum then (if s.all isAl then 1 else if s.all isDg then 2 else 3) else 0
theorem byte_all (p : UInt8 → Bool) (h : ∀ n, n < 256 → p (UInt8.ofNat n) = true) (c : UInt8) : p c = true := by
  have := h c.toNat c.toNat_lt
  rwa [UInt8.ofNat_toNat] at this
theorem low_low (s : Str) : low (low s) = low s := by
  unfold low
  rw [List.map_map]
  refine List.map_congr_left fun c _ => ?_
  exact of_decide_eq_true (byte_all (fun c => decide (lowC (lowC c) = lowC c)) (by decide +kernel) c)
end Go.Proofs.YtljadeeoaoiilaaGreatDoor.Iso
namespace Go.Proofs.YtljadeeoaoiilaaGreatDoor.Iso
def eachGo (a : Nat) (acc : Str) : Str → List (Nat × Str)
  | [] => [(a, acc)]
  | c :: t => if c = 45 then (a, acc) :: eachGo (a + acc.length + 1) [] t else eachGo a (acc ++ [c]) t
def each (s : Str) : List (Nat × Str) := eachGo 0 [] s
theorem eachGo_none : ∀ (l : Str) (a : Nat) (acc : Str), Go.Lib.indexByte l 45 = -1 → eachGo a acc l = [(a, acc ++ l)]
  | [], a, acc, _ => by simp [eachGo]
  | c :: t, a, acc, h => by
    unfold Go.Lib.indexByte at h
    by_cases hc : (c == (45 : UInt8)) = true
    · rw [if_pos hc] at h; cases h
    · rw [if_neg hc] at h
      have ht : Go.Lib.indexByte t 45 = -1 := by
        by_cases h2 : (Go.Lib.indexByte t 45 == -1) = true
        · exact beq_iff_eq.1 h2
        · rw [if_neg h2] at h; have := Go.Lib.indexByte_ge t 45; omega
      have hc' : ¬ c = 45 := fun e => hc (beq_iff_eq.2 e)
      rw [eachGo, if_neg hc', eachGo_none t a (acc ++ [c]) ht]
      simp
theorem eachGo_some : ∀ (l : Str) (a : Nat) (acc : Str) (n : Nat), Go.Lib.indexByte l 45 = n → n < l.length ∧ eachGo a acc l = (a, acc ++ l.take n) :: eachGo (a + acc.length + n + 1) [] (l.drop (n + 1))
  | [], a, acc, n, h => by simp [Go.Lib.indexByte] at h
  | c :: t, a, acc, n, h => by
    unfold Go.Lib.indexByte at h
    by_cases hc : (c == (45 : UInt8)) = true
    · rw [if_pos hc] at h
      obtain rfl : n = 0 := by omega
      refine ⟨by simp, ?_⟩
      rw [eachGo, if_pos (beq_iff_eq.1 hc)]
      simp
    · rw [if_neg hc] at h
      have hc' : ¬ c = 45 := fun e => hc (beq_iff_eq.2 e)
      by_cases h2 : (Go.Lib.indexByte t 45 == -1) = true
      · rw [if_pos h2] at h; omega
      · rw [if_neg h2] at h
        obtain ⟨m, hm⟩ : ∃ m : Nat, Go.Lib.indexByte t 45 = m := ⟨(Go.Lib.indexByte t 45).toNat, by
          have := Go.Lib.indexByte_ge t 45
          have h3 : ¬ Go.Lib.indexByte t 45 = -1 := fun e => h2 (beq_iff_eq.2 e)
          omega⟩
        obtain ⟨g1, g2⟩ := eachGo_some t a (acc ++ [c]) m hm
        obtain rfl : n = m + 1 := by omega
        refine ⟨by simpa using g1, ?_⟩
        rw [eachGo, if_neg hc', g2]
        simp only [List.append_assoc, List.cons_append, List.nil_append, List.take_succ_cons, List.drop_succ_cons, List.length_append, List.length_cons, List.length_nil]
        congr 2; omega
theorem eachGo_length : ∀ (l : Str) (a : Nat) (acc : Str), (eachGo a acc l).length ≤ l.length + 1
  | [], _, _ => by simp [eachGo]
  | c :: t, a, acc => by
    unfold eachGo
    split
    · have := eachGo_length t (a + acc.length + 1) []; simp only [List.length_cons]; omega
    · have := eachGo_length t a (acc ++ [c]); simp only [List.length_cons]; omega
def split (s : Str) : List Str := (each s).map (·.2)
end Go.Proofs.YtljadeeoaoiilaaGreatDoor.Iso
