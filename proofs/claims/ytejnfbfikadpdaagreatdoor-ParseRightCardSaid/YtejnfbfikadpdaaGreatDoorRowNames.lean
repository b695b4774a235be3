/- What a row's condition on the variable names gives a walk. -/
import Derived.Test.YtejnfbfikadpdaaGreatDoorHandFind
import Derived.Test.YtejnfbfikadpdaaGreatDoorRows
import Derived.Lib.LaidTab
namespace Go.Proofs.YtejnfbfikadpdaaGreatDoor.P
open Go.RowKit Go.Proofs.YtejnfbfikadpdaaGreatDoor.Iso Go.Proofs.YtejnfbfikadpdaaGreatDoor
theorem cells_of_strs {H : Type} {enc : TypeId × Value → H} {P : Program} {w : World} {base : Nat} {sp : Nat → Bool} {held : Bool} {fuel : Nat} {t e : TypeId} {n : Nat} {cs : List Value} {zs : List Str} {p : List MemPlace}
    (ht : P.underlying t = some (.array n e)) (he : P.underlying e = some .string) (hce : P.cellsOf e = 1) (hct : P.cellsOf t = n)
    (h : DataW.trod enc P w base sp held fuel t cs = some (.agg (zs.map fun z => (.lit (.string z) : DataW H)), p)) : cs = zs.map fun z => Value.string (mk z) := by
  cases fuel with
  | zero => simp [DataW.trod] at h
  | succ fuel =>
    simp only [DataW.trod, ht, hce, hct, Nat.mul_one] at h
    split at h
    · rename_i hl
      obtain ⟨xs, hm, hx⟩ := Option.map_eq_some_iff.1 h
      have hxs : xs.map (·.1) = zs.map fun z => (DataW.lit (.string z) : DataW H) := by
        have := congrArg Prod.fst hx
        simpa using this
      have hxl : xs.length = n := by simpa using Lib.mapM_length hm
      have hzl : zs.length = n := by
        have := congrArg List.length hxs
        simp at this
        omega
      apply List.ext_getElem?
      intro i
      by_cases hi : i < n
      · obtain ⟨b, hb, hf⟩ := Lib.mapM_at hm i i (by simp [hi])
        obtain ⟨s, hc, rfl, _⟩ := DataW.trod_string he hf
        have h1 : cs[i]? = some (.string s) := by
          have := congrArg (·[0]?) hc
          simpa [List.getElem?_take, List.getElem?_drop] using this
        have h2 : (xs.map (·.1))[i]? = some (DataW.lit (.string s.data.toList) : DataW H) := by simp [hb]
        rw [hxs] at h2
        simp only [List.getElem?_map, Option.map_eq_some_iff, DataW.lit.injEq, Lit.string.injEq] at h2
        obtain ⟨z', hz', e⟩ := h2
        have e2 : mk z' = s := by rw [e]; exact mk_bl s
        simp [h1, hz', e2]
      · rw [List.getElem?_eq_none (by omega), List.getElem?_eq_none (by simp; omega)]
    · cases h
theorem names_listed : (Rows.laid_isogloss_grand_names : DataW Unit) = .agg (nameL.map fun z => .lit (.string z)) := by kernel_rfl
theorem gN : Tryz.prog.globalNamed "isogloss/grand.names" = some 0 := by kernel_rfl
theorem gNT : (Tryz.prog.globals[0]?).map (·.type) = some 107 := by kernel_rfl
theorem cNS : Tryz.prog.cellsOf 9 = 1 := by kernel_rfl
theorem cNT : Tryz.prog.cellsOf 107 = 26 := by kernel_rfl
theorem names_of_laid {W : World} {rest : List (String × DataW Unit)} (h : laidMet Tryz.prog (("isogloss/grand.names", Rows.laid_isogloss_grand_names) :: rest) W) : NamesIn W := by
  rw [names_listed] at h
  obtain ⟨ps, ⟨g', t', cs, fuel, p, q, hg', ht', hvar, hd, _, _⟩, _⟩ := h
  obtain rfl := Option.some.inj (gN.symm.trans hg')
  obtain rfl := Option.some.inj (gNT.symm.trans ht')
  have e := cells_of_strs Tryz.underlying107 Tryz.underlying9 cNS cNT hd
  have ec : cs = (nameL.map fun z => Value.string (mk z)).toArray := by rw [← e]
  rw [ec] at hvar
  intro i hi
  have := World.var?_cell gN hvar i
  rw [this]
  unfold nm
  have hl : i < nameL.length := hi
  simp [List.getElem?_toArray, List.getElem?_map, List.getElem?_eq_getElem hl, List.getD_eq_getElem?_getD]
end Go.Proofs.YtejnfbfikadpdaaGreatDoor.P
