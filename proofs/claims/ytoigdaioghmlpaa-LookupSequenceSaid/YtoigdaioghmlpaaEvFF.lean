/- What filter.Filter, FilterExtended, the document's Filter, Few and Same come to, in plain words. Conditions: texts have at most 2^42 bytes, rows at most 2^40 texts. -/
import Derived.Test.YtoigdaioghmlpaaEvFR
import Derived.Test.YtoigdaioghmlpaaPx4
namespace Go.Proofs.Ytoigdaioghmlpaa.Iso
set_option linter.unusedSimpArgs false
set_option linter.unusedVariables false
open Go Go.RowKit Go.Proofs.YtoigdaioghmlpaaW.PrintWords Go.Proofs.Ytoigdaioghmlpaa.P
theorem mkbl (l : List ByteArray) : (l.map bl).map mk = l := by
  rw [List.map_map]; conv => rhs; rw [← List.map_id l]
  exact List.map_congr_left fun s _ => mk_bl s
def cut40 (n : Nat) (l : List ByteArray) : List Str := (l.take n).map fun s => (bl s).take 40
theorem few_l0 (l : List ByteArray) (n : Nat) (hn : n ≤ 1000000) (m : Nat) : ∀ i : Nat, n ≤ i + m → i ≤ n →
    Ev (fun k => isoglossref20_Few.l0 k l (n : Int) ((cut40 i l).map mk) i) ((cut40 n l).map mk) := by
  induction m with
  | zero =>
    intro i h1 h2
    obtain rfl : i = n := by omega
    refine Ev.succ (Ev.succ ?_)
    have : Ev (fun k => isoglossref20_Few.j1 (k + 1) l (i : Int) ((cut40 i l).map mk) i false) ((cut40 i l).map mk) := by
      simp only [isoglossref20_Few.j1, Bool.false_eq_true, ↓reduceIte]; exact Ev.now _
    simp only [isoglossref20_Few.l0, show ¬ ((i : Int) < (i : Int)) from by omega, decide_false, ite_self]
    exact this
  | succ m ih =>
    intro i h1 h2
    have stop : Ev (fun k => isoglossref20_Few.j1 (k + 1) l (n : Int) ((cut40 i l).map mk) i false) ((cut40 i l).map mk) := by
      simp only [isoglossref20_Few.j1, Bool.false_eq_true, ↓reduceIte]; exact Ev.now _
    refine Ev.succ (Ev.succ ?_)
    by_cases hl : i < l.length
    · by_cases hin : i < n
      · have hg : rdOf ByteArray.empty l (i : Int) = l[i] := by
          unfold rdOf
          rw [Int.toNat_natCast, List.getD_eq_getElem?_getD, List.getElem?_eq_getElem hl]; rfl
        have hc : cut40 (i + 1) l = cut40 i l ++ [(bl l[i]).take 40] := by
          unfold cut40
          rw [List.take_add_one, List.getElem?_eq_getElem hl, List.map_append]; rfl
        have hrec := ih (i + 1) (by omega) (by omega)
        rw [hc, List.map_append] at hrec
        have hlen : ((cut40 i l).map mk).length < 8796093022208 := by
          rw [List.length_map]; unfold cut40; rw [List.length_map, List.length_take]; omega
        simp only [isoglossref20_Few.l0, isoglossref20_Few.j1, show ((i : Int) < (l.length : Int)) from by omega, show ((i : Int) < (n : Int)) from by omega, decide_true, show (0 : Int) ≤ (i : Int) from by omega, hg, hlen, ↓reduceIte, wrap_lt hin (by omega)]
        by_cases h40 : (l[i].size : Int) > 40
        · simp only [h40, show (40 : Int) ≤ (l[i].size : Int) from by omega, show (0 : Int) ≤ 40 from by omega, ↓reduceIte]
          have e : l[i].extract 0 40 = mk ((bl l[i]).take 40) := by apply bl_inj; rw [bl_extract, bl_mk]; simp
          rw [e]; exact hrec
        · simp only [h40, ↓reduceIte]
          have e : mk ((bl l[i]).take 40) = l[i] := by
            apply bl_inj; rw [bl_mk, List.take_of_length_le (by rw [bl_len]; omega)]
          simp only [List.map_cons, List.map_nil, e] at hrec
          exact hrec
      · have hc : cut40 n l = cut40 i l := by rw [show n = i from by omega]
        simp only [isoglossref20_Few.l0, show ((i : Int) < (l.length : Int)) from by omega, show ¬ ((i : Int) < (n : Int)) from by omega, decide_false, ↓reduceIte]
        rw [hc]; exact stop
    · have hc : cut40 n l = cut40 i l := by
        unfold cut40; rw [List.take_of_length_le (by omega), List.take_of_length_le (by omega)]
      simp only [isoglossref20_Few.l0, show ¬ ((i : Int) < (l.length : Int)) from by omega, ↓reduceIte]
      rw [hc]; exact stop
theorem Few_ev (l : List ByteArray) (n : Nat) (hn : n ≤ 1000000) : Ev (fun k => isoglossref20_Few.f k l (n : Int)) ((cut40 n l).map mk) := by
  have := few_l0 l n hn n 0 (by omega) (by omega)
  simpa [cut40, isoglossref20_Few.f] using this
/-- Texts in bounds. -/
def Fits (m : Nat) (ps : List Str) : Prop := ps.length ≤ m ∧ ∀ p ∈ ps, p.length ≤ 4398046511104
theorem cut40_fits (n : Nat) (l : List ByteArray) : Fits n (cut40 n l) := by
  refine ⟨by unfold cut40; rw [List.length_map, List.length_take]; omega, fun p hp => ?_⟩
  obtain ⟨s, _, rfl⟩ := List.mem_map.1 hp
  rw [List.length_take]; omega
/-- The tags that some range lets through. -/
def sieve (m : Str → Str → Bool) (rs ts : List Str) : List Str := ts.filter fun t => rs.any fun r => m r t
theorem mk_len (p : Str) : (mk p).size = p.length := id rfl
end Go.Proofs.Ytoigdaioghmlpaa.Iso
