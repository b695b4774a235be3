/- tag.rules' methods and tag.Right, walked. Conditions: a tag's rows have 100000 things at most, its texts 1000000 bytes. -/
import Derived.Test.YtejnfbfikadpdaaGreatDoorSq
import Derived.Test.YtejnfbfikadpdaaGreatDoorHandOnce
import Derived.Test.YtejnfbfikadpdaaGreatDoorHandSubtags
import Derived.Test.YtejnfbfikadpdaaGreatDoorHandSp7
import Derived.WalkLawsBesides
import Derived.Lib.Join
import Derived.Test.YtejnfbfikadpdaaGreatDoorPx18
import Derived.Test.YtejnfbfikadpdaaGreatDoorPx21
import Derived.Test.YtejnfbfikadpdaaGreatDoorPx5
namespace Go.Proofs.YtejnfbfikadpdaaGreatDoor.P
open Go.RowKit Go.Shelf Go.Proofs.YtejnfbfikadpdaaGreatDoorW.PrintWords Go.Proofs.YtejnfbfikadpdaaGreatDoorW.PrintLast Go.Proofs.YtejnfbfikadpdaaGreatDoorW.PrintMore Go.Proofs.YtejnfbfikadpdaaGreatDoor.Iso
set_option linter.unusedVariables false
set_option linter.unusedSimpArgs false
attribute [local go_sem] Oper.semAt_some
section
variable {P : Program} {ops : Array Oper} {Q : Exit → Act → World → Prop}
theorem goesV_ {oi : Oper} {N : Option Tmp} {a : Act} {w : World} {K : Act → World → Prop} {f : FuncId} {fn : Func} {x : Operand} {ars : Array Operand} {ts : Array TypeId} (hf : P.funcs[f]? = some fn) (hname : (fn.name == "runtime.NumGoroutine") = false) (hb : fn.body.isSome = true) (args caps : Array Value)
    (hw : Region.wanted oi (yielded ops a.tmps) = true) (hN : oi.dst = N) (hop : oi.op = .call { callee := .value x, args := ars, argTypes := ts }) (hx : a.eval x = .func (.func f) #[] caps) (hargs : ars.map a.eval ++ caps = args)
    (h : Calls P f args w fun e w' => ∃ v, e = .returned v ∧ K (a.put N v) w') : if Region.wanted oi (yielded ops a.tmps) = true then Oper.wp P oi a w K Q else K (a.put N undef) w := by
  refine call_ f args hw hN ?_ h
  have he := enters_ hf hname hb args w
  unfold execOp
  simp [hop, resolve, Deferred.ofValue, invoke, hx, hargs, he]
end
structure Fit (T : TG) : Prop where
  subl : (subL T.lang T.ext T.script T.region T.vars T.exts T.priv).length ≤ 100000
  grand : T.grand.size ≤ 1000
  sub : ∀ s ∈ subsT T, s.size ≤ 1000000
  lang : T.lang.size ≤ 1000000
  script : T.script.size ≤ 1000000
  region : T.region.size ≤ 1000000
  ext : ∀ s ∈ T.ext, s.size ≤ 1000000
  vars : ∀ s ∈ T.vars, s.size ≤ 1000000
  priv : ∀ s ∈ T.priv, s.size ≤ 1000000
  keys : ∀ x ∈ T.exts, x.f0.size ≤ 1000000
  subs : ∀ x ∈ T.exts, ∀ s ∈ x.f1, s.size ≤ 1000000
  text : (textT T).length ≤ 1000000
  next : T.ext.length ≤ 100000
  nvars : T.vars.length ≤ 100000
  nexts : T.exts.length ≤ 100000
  npriv : T.priv.length ≤ 100000
  nsubs : ∀ x ∈ T.exts, x.f1.length ≤ 100000
abbrev Held8 (T : TG) (A1 : Option Addr) (c1 : Nat) (A4 : Option Addr) (c4 : Nat) (A5 : Option Addr) (c5 : Nat) (A6 : Option Addr) (c6 g : Nat) (w' : World) : Prop := w'.cell? ⟨g, 0, none⟩ = some (.string T.lang) ∧ w'.cell? ⟨g, 1, none⟩ = some (.slice A1 T.ext.length c1) ∧ w'.cell? ⟨g, 2, none⟩ = some (.string T.script) ∧ w'.cell? ⟨g, 3, none⟩ = some (.string T.region) ∧ w'.cell? ⟨g, 4, none⟩ = some (.slice A4 T.vars.length c4) ∧ w'.cell? ⟨g, 5, none⟩ = some (.slice A5 T.exts.length c5) ∧ w'.cell? ⟨g, 6, none⟩ = some (.slice A6 T.priv.length c6) ∧ w'.cell? ⟨g, 7, none⟩ = some (.string T.grand)
theorem held8 {W w' : World} {T : TG} {A1 : Option Addr} {c1 : Nat} {A4 : Option Addr} {c4 : Nat} {A5 : Option Addr} {c5 : Nat} {A6 : Option Addr} {c6 g : Nat} {t : TypeId} (h : W.heap[g]? = some (.cells (tagCells T A1 c1 A4 c4 A5 c5 A6 c6) t (0, 0))) (hb : Below W.heap.size W w') : Held8 T A1 c1 A4 c4 A5 c5 A6 c6 g w' :=
  ⟨pw_cell_below hb ((blk_cell h 0).trans rfl), pw_cell_below hb ((blk_cell h 1).trans rfl), pw_cell_below hb ((blk_cell h 2).trans rfl), pw_cell_below hb ((blk_cell h 3).trans rfl), pw_cell_below hb ((blk_cell h 4).trans rfl), pw_cell_below hb ((blk_cell h 5).trans rfl), pw_cell_below hb ((blk_cell h 6).trans rfl), pw_cell_below hb ((blk_cell h 7).trans rfl)⟩
theorem Fit.len {T : TG} (h : Fit T) : (subsT T).length ≤ 100000 := by
  unfold subsT subsL
  split
  · exact h.subl
  · rw [List.length_map]
    have := split_length (bl T.grand)
    rw [bl_len] at this
    have := h.grand
    omega
theorem allN_all (q : ByteArray → Bool) : ∀ (l : List ByteArray) (n : Nat), n ≤ l.length → allN (fun i => q (l.getD i ⟨#[]⟩)) n = (l.take n).all q
  | l, 0, _ => rfl
  | l, n + 1, h => by
    have e : l.take (n + 1) = l.take n ++ [l[n]] := by rw [List.take_add_one, List.getElem?_eq_getElem (by omega)]; rfl
    have eg : l.getD n ⟨#[]⟩ = l[n] := by rw [List.getD_eq_getElem?_getD, List.getElem?_eq_getElem (by omega)]; rfl
    unfold allN
    rw [allN_all q l n (by omega), e, List.all_append, eg]
    simp only [List.all_cons, List.all_nil, Bool.and_true]
theorem allN_allX {α : Type} (q : α → Bool) (z : α) : ∀ (l : List α) (n : Nat), n ≤ l.length → allN (fun i => q (l.getD i z)) n = (l.take n).all q
  | l, 0, _ => rfl
  | l, n + 1, h => by
    have e : l.take (n + 1) = l.take n ++ [l[n]] := by rw [List.take_add_one, List.getElem?_eq_getElem (by omega)]; rfl
    have eg : l.getD n z = l[n] := by rw [List.getD_eq_getElem?_getD, List.getElem?_eq_getElem (by omega)]; rfl
    unfold allN
    rw [allN_allX q z l n (by omega), e, List.all_append, eg]
    simp only [List.all_cons, List.all_nil, Bool.and_true]
theorem allN_row (q : ByteArray → Bool) (l : List ByteArray) : allN (fun i => q (l.getD i ⟨#[]⟩)) l.length = l.all q := by
  rw [allN_all q l _ (Nat.le_refl _), List.take_length]
theorem every0_calls (A : Option Addr) (c g : Nat) (l : List ByteArray) (q : ByteArray → Bool) (hl : l.length ≤ 1000000) (eg : ∀ args w, (callFunc g args).run Tryz.prog w = .ok (.enter g args) w)
    (hq : ∀ s ∈ l, ∀ W, Calls Tryz.prog g #[.string s] W fun e W' => e = .returned (.bool (q s)) ∧ Below W.heap.size W W') (w : World) (hC : Kd.C Kd.string w A l.length l) :
    Calls Tryz.prog 105 #[.slice A l.length c, .func (.func g) #[] #[]] w fun e W' => e = .returned (.bool (l.all q)) ∧ Below w.heap.size w W' := by
  refine (allS0_calls A l.length c g (fun i => .string (l.getD i ⟨#[]⟩)) (fun i => q (l.getD i ⟨#[]⟩)) (fun i W => Below w.heap.size w W) (by omega) eg (fun i W W' h hb => below_step h hb)
    (fun i W hi h => ?_) (fun i W hi h => ?_) w (Below.refl _ _)).mono ?_
  · obtain ⟨ad, ea, x0⟩ := Kd.at_string (Kd.C_below hC h) (i : Int) (by omega) (by omega)
    refine ⟨ad, ea, ?_⟩
    rw [Int.toNat_natCast] at x0
    rw [x0]; rfl
  · have hg : l.getD i ⟨#[]⟩ = l[i] := by rw [List.getD_eq_getElem?_getD, List.getElem?_eq_getElem hi]; rfl
    rw [hg]
    exact (hq _ (List.getElem_mem hi) W).mono fun e W' ⟨he, hb⟩ => ⟨he, below_step h hb, keepsT_below hb⟩
  · rintro e W' ⟨rfl, i, hi, hI, -⟩
    rw [allN_row]
    exact ⟨rfl, hI⟩
theorem every1_calls (A : Option Addr) (c g b : Nat) (u : Value) (l : List ByteArray) (q : ByteArray → Bool) (hl : l.length ≤ 1000000) (eg : ∀ args w, (callFunc g args).run Tryz.prog w = .ok (.enter g args) w)
    (hq : ∀ s ∈ l, ∀ W : World, W.cell? ⟨b, 0, none⟩ = some u → Calls Tryz.prog g #[.string s, .pointer (some ⟨b, 0, none⟩)] W fun e W' => e = .returned (.bool (q s)) ∧ Below W.heap.size W W') (w : World) (hu : w.cell? ⟨b, 0, none⟩ = some u) (hC : Kd.C Kd.string w A l.length l) :
    Calls Tryz.prog 105 #[.slice A l.length c, .func (.func g) #[] #[.pointer (some ⟨b, 0, none⟩)]] w fun e W' => e = .returned (.bool (l.all q)) ∧ Below w.heap.size w W' := by
  refine (allS1_calls A l.length c g b (fun i => .string (l.getD i ⟨#[]⟩)) (fun i => q (l.getD i ⟨#[]⟩)) (fun i W => Below w.heap.size w W) (by omega) eg (fun i W W' h hb => below_step h hb)
    (fun i W hi h => ?_) (fun i W hi h => ?_) w (Below.refl _ _)).mono ?_
  · obtain ⟨ad, ea, x0⟩ := Kd.at_string (Kd.C_below hC h) (i : Int) (by omega) (by omega)
    refine ⟨ad, ea, ?_⟩
    rw [Int.toNat_natCast] at x0
    rw [x0]; rfl
  · have hg : l.getD i ⟨#[]⟩ = l[i] := by rw [List.getD_eq_getElem?_getD, List.getElem?_eq_getElem hi]; rfl
    rw [hg]
    exact (hq _ (List.getElem_mem hi) W (pw_cell_below h hu)).mono fun e W' ⟨he, hb⟩ => ⟨he, below_step h hb, keepsT_below hb⟩
  · rintro e W' ⟨rfl, i, hi, hI, -⟩
    rw [allN_row]
    exact ⟨rfl, hI⟩
theorem everySub_calls (A : Option Addr) (c b m : Nat) (hm : 1 ≤ m) (hm8 : m ≤ 8) (l : List ByteArray) (hl : l.length ≤ 1000000) (hs : ∀ s ∈ l, s.size ≤ 1000000) (w : World) (hu : w.cell? ⟨b, 0, none⟩ = some (.int .i64 (m : Int))) (hC : Kd.C Kd.string w A l.length l) :
    Calls Tryz.prog 105 #[.slice A l.length c, .func (.func 138) #[] #[.pointer (some ⟨b, 0, none⟩)]] w fun e W' => e = .returned (.bool (l.all (subOk m))) ∧ Below w.heap.size w W' :=
  every1_calls A c _ b _ l (subOk m) hl (enters_of Tryz.func138 (by kernel_rfl) rfl) (fun s h W hb => sub1_calls b m hm hm8 s (by have := hs s h; omega) W hb) w hu hC
theorem ext_calls (s : ByteArray) (hs : s.size ≤ 1000000) (W : World) : Calls Tryz.prog 116 #[.string s] W fun e W' => e = .returned (.bool (isExtl (bl s))) ∧ Below W.heap.size W W' := by
  obtain ⟨k, hk⟩ := (tag_Extlang_ev s (by omega)).rounds
  exact (tag_Extlang.calls k s _ W hk).mono fun e W' ⟨he, hd⟩ => ⟨he, hd.below⟩
theorem var_calls (s : ByteArray) (hs : s.size ≤ 1000000) (W : World) : Calls Tryz.prog 119 #[.string s] W fun e W' => e = .returned (.bool (Iso.isVar (bl s))) ∧ Below W.heap.size W W' := by
  obtain ⟨k, hk⟩ := (tag_Variant_ev s (by omega)).rounds
  exact (tag_Variant.calls k s _ W hk).mono fun e W' ⟨he, hd⟩ => ⟨he, hd.below⟩
theorem scr_calls (s : ByteArray) (hs : s.size ≤ 1000000) (W : World) : Calls Tryz.prog 79 #[.string s] W fun e W' => e = .returned (.bool (Iso.isScr (bl s))) ∧ Below W.heap.size W W' := by
  obtain ⟨k, hk⟩ := (tag_Script_ev s (by omega)).rounds
  exact (tag_Script.calls k s _ W hk).mono fun e W' ⟨he, hd⟩ => ⟨he, hd.below⟩
theorem reg_calls (s : ByteArray) (hs : s.size ≤ 1000000) (W : World) : Calls Tryz.prog 80 #[.string s] W fun e W' => e = .returned (.bool (Iso.isReg (bl s))) ∧ Below W.heap.size W W' := by
  obtain ⟨k, hk⟩ := (tag_Region_ev s (by omega)).rounds
  exact (tag_Region.calls k s _ W hk).mono fun e W' ⟨he, hd⟩ => ⟨he, hd.below⟩
theorem lang_calls (s : ByteArray) (hs : s.size ≤ 1000000) (W : World) : Calls Tryz.prog 115 #[.string s] W fun e W' => e = .returned (.bool (Iso.isLang (bl s))) ∧ Below W.heap.size W W' := by
  obtain ⟨k, hk⟩ := (tag_Language_ev s (by omega)).rounds
  exact (tag_Language.calls k s _ W hk).mono fun e W' ⟨he, hd⟩ => ⟨he, hd.below⟩
theorem singR_calls (s : ByteArray) (hs : s.size ≤ 1000000) (W : World) : Calls Tryz.prog 122 #[.string s] W fun e W' => e = .returned (.bool (Iso.isSing (bl s))) ∧ Below W.heap.size W W' := by
  obtain ⟨k, hk⟩ := (tag_Singleton_ev s (by omega)).rounds
  exact tag_Singleton.calls k s _ W hk
theorem subT_calls {T : TG} (hf : Fit T) {W : World} {A1 : Option Addr} {c1 : Nat} {A4 : Option Addr} {c4 : Nat} {A5 : Option Addr} {c5 : Nat} {A6 : Option Addr} {c6 : Nat} (h : RowsC W T A1 c1 A4 c4 A5 c5 A6 c6) :
    Calls Tryz.prog 135 #[.agg (tagCells T A1 c1 A4 c4 A5 c5 A6 c6)] W fun e W' => ∃ v, e = .returned v ∧ Kd.R Kd.string 9 W' W.heap.size (fun _ => True) v (subsT T) ∧ Below W.heap.size W W' :=
  tag_Subtags.calls _ _ _ _ _ _ _ _ _ _ _ _ _ _ _ _ _ W h.1.1 h.1.2 h.2.1.1 h.2.1.2 h.2.2.1.1 h.2.2.1.2 h.2.2.2.1 h.2.2.2.2 (tagSub_eq _ _ _ _ _ _ _ _ hf.subl hf.grand)
theorem C_lit (W : World) (l : List ByteArray) (hl : l.length ≤ 1000) : Kd.C Kd.string (W.alloc (.cells (l.map Value.string).toArray 9)) (some ⟨W.heap.size, 0, none⟩) l.length l := by
  refine ⟨rfl, by omega, fun _ => ⟨_, rfl, fun j p hj => ⟨[.string p], rfl, rfl, fun i u hu => ?_⟩⟩⟩
  obtain ⟨rfl, rfl⟩ : i = 0 ∧ u = .string p := by
    cases i with
    | zero => exact ⟨rfl, (Option.some.inj hu).symm⟩
    | succ i => simp at hu
  have e : ((⟨W.heap.size, 0, none⟩ : Addr).add (j * Kd.string.sz + 0)) = ⟨W.heap.size, j, none⟩ := by
    rw [show j * Kd.string.sz + 0 = j from Nat.mul_one j, add_plain]
  rw [e]
  refine (blk_cell (new_blk W _) j).trans ?_
  simp [hj]
def sm3_T : Bool × List (List Nat × List Nat) := (true, [([], []), ([], []), ([1], [1]), ([0, 2], [0, 2]), ([3, 3], [3]), ([4], [4]), ([5, 4, 4], [4, 5]), ([4], [4]), ([7, 4], [4, 7]), ([4], [4]), ([9, 4], [4, 9]), ([4], [4]), ([11, 4], [4, 11]), ([8, 10, 12, 4], [4, 8, 10, 12]), ([6, 13, 6, 4], [4, 6, 13]), ([4], [4]), ([14, 15, 14, 4], [4, 14, 15]), ([4, 16], [4, 16]), ([17, 16, 0, 1, 2, 3, 4, 5, 6, 7, 8, 9, 10, 11, 12, 13, 14, 15, 16, 17], [17])])
def sm3_B : List Nat := [0, 0, 2, 7, 15, 31, 63, 31, 159, 31, 543, 31, 2079, 8095, 16383, 31, 65535, 131071, 262143]
theorem sm3_tab : rtab .any (opsOf Tryz.f103 3) = sm3_T := by kernel_rfl
theorem sm3_bits : waitsOk sm3_T.2 sm3_B = true := by kernel_rfl
set_option maxRecDepth 100000 in
set_option maxHeartbeats 8000000 in
theorem small_yes (T : TG) (A1 : Option Addr) (c1 : Nat) (A4 : Option Addr) (c4 : Nat) (A5 : Option Addr) (c5 : Nat) (A6 : Option Addr) (c6 : Nat) (w : World) (hR : RowsC w T A1 c1 A4 c4 A5 c5 A6 c6) (hf : Fit T) (hg : lowOk T.grand = true) :
    Calls Tryz.prog 103 #[.agg (tagCells T A1 c1 A4 c4 A5 c5 A6 c6)] w fun e W' => e = .returned (.bool ((subsT T ++ [T.lang, T.script, T.region]).all lowOk)) ∧ Below w.heap.size w W' := by
  have HF := Lib.hid hf
  have IS := Lib.hid (fun W => isSmall_calls T.grand (by have := hf.grand; omega) W)
  rw [hg] at IS
  obtain ⟨y, hy⟩ : ∃ y, subsT T ++ [T.lang, T.script, T.region] = y := ⟨_, rfl⟩
  have HY := Lib.hid hy
  have IA := Lib.hid (show ∀ s ∈ y, ∀ W, Calls Tryz.prog 134 #[.string s] W fun e W' => e = .returned (.bool (lowOk s)) ∧ Below W.heap.size W W' from fun s hs W => isSmall_calls s (by
    rw [← hy] at hs
    rcases List.mem_append.1 hs with h | h
    · have := hf.sub s h; omega
    · have h1 := hf.lang; have h2 := hf.script; have h3 := hf.region
      rcases List.mem_cons.1 h with rfl | h
      · omega
      · rcases List.mem_cons.1 h with rfl | h
        · omega
        · rw [List.mem_singleton.1 h]; omega) W)
  have HYL := Lib.hid (show y.length = (subsT T).length + 3 by rw [← hy, List.length_append]; rfl)
  have HLE := Lib.hid hf.len
  rw [hy]
  have z1 : (w.alloc (.cells (tagCells T A1 c1 A4 c4 A5 c5 A6 c6) 142)).heap.size = w.heap.size + 1 := by simp
  have K := new_blk (w.alloc (.cells (tagCells T A1 c1 A4 c4 A5 c5 A6 c6) 142)) (.cells (tagCells T A1 c1 A4 c4 A5 c5 A6 c6) 29)
  rw [z1] at K
  have KH := Lib.hid K
  have RT := Lib.hid ((hR.below (below_alloc (Below.refl _ _) (.cells (tagCells T A1 c1 A4 c4 A5 c5 A6 c6) 142))).below (below_alloc (Below.refl _ _) (.cells (tagCells T A1 c1 A4 c4 A5 c5 A6 c6) 29)))
  have HB := Lib.hid (below_alloc (below_alloc (Below.refl w.heap.size w) (.cells (tagCells T A1 c1 A4 c4 A5 c5 A6 c6) 142)) (.cells (tagCells T A1 c1 A4 c4 A5 c5 A6 c6) 29))
  clear hR hf hg K z1 hy
  go_enter Tryz.func103, Tryz.ntmps103
  go_upto_region 3 with (fail)
  obtain ⟨W0, hW0⟩ : ∃ W0, W0 = (w.alloc (.cells (tagCells T A1 c1 A4 c4 A5 c5 A6 c6) 142)).alloc (.cells (tagCells T A1 c1 A4 c4 A5 c5 A6 c6) 29) := ⟨_, rfl⟩
  rw [← hW0]
  rw [← hW0] at KH RT HB
  have EQ := Lib.hid (fun (w' : World) (h : Below W0.heap.size W0 w') => (held8 KH.out h : Held8 T A1 c1 A4 c4 A5 c5 A6 c6 (w.heap.size + 1) w'))
  have Y0 := Lib.hid (Below.refl W0.heap.size W0)
  clear hW0
  refine start_ (n := 19) (S := fun w' => Held8 T A1 c1 A4 c4 A5 c5 A6 c6 (w.heap.size + 1) w') (ds := []) #[false, false, false, false, false, false, false, false, false, false, false, false, false, false, false, false, false, false, false] (by kernel_rfl) rfl rfl (EQ.out _ (below_drew Y0.out)) (fun hHeld => ?_); refine with_tabW sm3_tab sm3_bits (fun HT_ HW_ => ?_)
  refine pu_ (i := 0) (N := some 7) HT_ (bl_ 19 1) ?_
  refine pu_ (i := 1) (N := some 8) HT_ (bl_ 19 3) ?_
  refine tk_ (i := 2) (N := some 9) HT_ HW_ (bl_ 19 7) hHeld ?_ (hy := by rintro w' ⟨s0, s1, s2, s3, s4, s5, s6, s7⟩; go_simp; with_reducible rfl)
  refine on_ (i := 3) (N := some 10) HT_ (bl_ 19 15) rfl rfl (fun K hK => ?_)
  refine goesV_ Tryz.func134 (by kernel_rfl) rfl #[.string T.grand] #[] (by rfl) rfl rfl rfl (by simp only [List.map_toArray, List.map_cons, List.map_nil]; rfl) ?_
  refine (IS.out _).mono ?_
  rintro e w1 ⟨rfl, hb⟩
  have Y1 := Lib.hid (below_step (below_drew Y0.out) hb)
  clear hb
  refine ⟨_, rfl, ?_⟩
  refine hK.out _ _ (EQ.out _ Y1.out) (fun hHeld => ?_)
  clear hK K
  refine nm_ (some 10) ?_
  refine pu_ (i := 4) (N := some 11) HT_ (bl_ 19 31) ?_
  refine tk_ (i := 5) (N := some 12) HT_ HW_ (bl_ 19 63) hHeld ?_ (hy := by rintro w' ⟨s0, s1, s2, s3, s4, s5, s6, s7⟩; go_simp; with_reducible rfl)
  refine pu_ (i := 7) (N := some 14) HT_ (bl_ 19 191) ?_
  refine tk_ (i := 8) (N := some 15) HT_ HW_ (bl_ 19 447) hHeld ?_ (hy := by rintro w' ⟨s0, s1, s2, s3, s4, s5, s6, s7⟩; go_simp; with_reducible rfl)
  refine pu_ (i := 9) (N := some 16) HT_ (bl_ 19 959) ?_
  refine tk_ (i := 10) (N := some 17) HT_ HW_ (bl_ 19 1983) hHeld ?_ (hy := by rintro w' ⟨s0, s1, s2, s3, s4, s5, s6, s7⟩; go_simp; with_reducible rfl)
  refine pu_ (i := 11) (N := some 18) HT_ (bl_ 19 4031) ?_
  refine tk_ (i := 12) (N := some 19) HT_ HW_ (bl_ 19 8127) hHeld ?_ (hy := by rintro w' ⟨s0, s1, s2, s3, s4, s5, s6, s7⟩; go_simp; with_reducible rfl)
  refine pu_ (i := 15) (N := some 22) HT_ (bl_ 19 40895) ?_
  refine join_ (σ := Option Addr × Nat × Nat) 4 #[true, true, true, true, true, true, true, true, true, true, true, true, true, true, false, true, false, false, false] (fun s_ => [(13, .slice s_.1 (subsT T).length s_.2.1), (20, .slice (some ⟨s_.2.2, 0, none⟩) 3 3)]) (fun s_ w' => Kd.R Kd.string 9 w' W0.heap.size (fun _ => True) (.slice s_.1 (subsT T).length s_.2.1) (subsT T) ∧ Kd.C Kd.string w' (some ⟨s_.2.2, 0, none⟩) 3 [T.lang, T.script, T.region] ∧ Below W0.heap.size W0 w') ?_ ?_
  rotate_left
  · intro hCont
    refine two_ (i := 6) (j := 13) (Ni := some 13) (Nj := some 20) #[true, true, true, true, true, true, true, true, true, true, true, true, true, false, false, true, false, false, false] #[true, true, true, true, true, true, false, true, true, true, true, true, true, true, false, true, false, false, false] rfl rfl rfl rfl (two_of HT_.out (by kernel_rfl)) (by decide) (by decide) (fun K hK => ?_) (fun K hK => ?_)
    · refine gs_ Tryz.func135 #[.agg (tagCells T A1 c1 A4 c4 A5 c5 A6 c6)] ?_
      refine (subT_calls HF.out (RT.out.below Y1.out)).mono ?_
      rintro e w2 ⟨v, rfl, hr, hb⟩
      obtain ⟨B, d, hv⟩ := Kd.R_slice hr
      subst hv
      have Y2 := Lib.hid (below_step Y1.out hb)
      have HR2 := Lib.hid (Kd.R_lower hr (Y1.out).size)
      have HBS := Lib.hid hb
      clear hb hr
      refine ⟨_, rfl, ?_⟩
      refine hK.out _ _ (EQ.out _ Y2.out) (fun hHeld => ?_)
      clear hK K
      refine nm_ (some 13) ?_
      refine on_ (i := 13) (N := some 20) HT_ (bl_ 19 49151) rfl rfl (fun K hK => ?_)
      refine value_ (w1 := ?_) (v := ?_) (by rfl) rfl ?_ ?_
      rotate_left 2
      · go_simp
        constructor
        · rfl
        · rfl
      refine hK.out _ _ (EQ.out _ (below_alloc Y2.out _)) (fun hHeld => ?_)
      clear hK K
      refine nm_ (some 20) ?_
      exact norm_ (by simp only [putAll, Act.put, List.setIfInBounds_toArray, List.set_cons_zero, List.set_cons_succ]) (hCont (B, d, w2.heap.size) _ ⟨Kd.R_alloc HR2.out _, C_lit w2 [T.lang, T.script, T.region] (by simp), below_alloc Y2.out _⟩)
    · refine value_ (w1 := ?_) (v := ?_) (by rfl) rfl ?_ ?_
      rotate_left 2
      · go_simp
        constructor
        · rfl
        · rfl
      refine hK.out _ _ (EQ.out _ (below_alloc Y1.out _)) (fun hHeld => ?_)
      clear hK K
      refine nm_ (some 20) ?_
      refine on_ (i := 6) (N := some 13) HT_ (bl_ 19 49151) rfl rfl (fun K hK => ?_)
      refine gs_ Tryz.func135 #[.agg (tagCells T A1 c1 A4 c4 A5 c5 A6 c6)] ?_
      refine (subT_calls HF.out (RT.out.below (below_alloc Y1.out _))).mono ?_
      rintro e w2 ⟨v, rfl, hr, hb⟩
      obtain ⟨B, d, hv⟩ := Kd.R_slice hr
      subst hv
      have Y2 := Lib.hid (below_step (below_alloc Y1.out _) hb)
      have HR2 := Lib.hid (Kd.R_lower hr ((below_alloc Y1.out _)).size)
      have HBS := Lib.hid hb
      clear hb hr
      refine ⟨_, rfl, ?_⟩
      refine hK.out _ _ (EQ.out _ Y2.out) (fun hHeld => ?_)
      clear hK K
      refine nm_ (some 13) ?_
      exact norm_ (by simp only [putAll, Act.put, List.setIfInBounds_toArray, List.set_cons_zero, List.set_cons_succ]) (hCont (B, d, w1.heap.size) _ ⟨HR2.out, Kd.C_below (C_lit w1 [T.lang, T.script, T.region] (by simp)) HBS.out, Y2.out⟩)
  rintro ⟨B, d, g⟩ w2 ⟨hr, hc, hb⟩
  have HR2 := Lib.hid hr
  have HC2 := Lib.hid hc
  have Y2 := Lib.hid hb
  have hHeld := EQ.out _ hb
  clear hr hc hb
  refine norm_ (a' := ?_) ?_ ?_
  rotate_left
  · simp only [putAll, Act.put, List.setIfInBounds_toArray, List.set_cons_zero, List.set_cons_succ]
    rfl
  refine on_ (i := 14) (N := some 21) HT_ (bl_ 19 65535) rfl rfl (fun K hK => ?_)
  (refine Kd.R_append_rows_step Kd.string (w0 := W0) W0.heap.size (by rfl) (.tmp 13) (.tmp 20) 26 9 (.string ⟨#[]⟩) 16 rfl Tryz.underlying26 info9 rfl (by decide) (by decide) (.slice B (subsT T).length d) (subsT T) [T.lang, T.script, T.region] (some ⟨g, 0, none⟩) 3 3 (fun _ => True) (fun _ => False) rfl rfl HR2.out HC2.out (fun _ _ h => h) (fun _ hk => hk.elim) (fun _ _ => trivial) Y2.out ?aS ?aL ?_; (case aS => exact Y2.out.size); (case aL => have := HLE.out; omega); intro v3_ w3 hr_ hb_ hg_ hat_; rw [HY.out] at hr_; obtain ⟨B3, d3, hx_⟩ := Kd.R_slice hr_; subst hx_; have HR3 := Lib.hid hr_; have Y3 := Lib.hid hb_; clear hr_ hb_ hg_ hat_)
  refine hK.out _ _ (EQ.out _ Y3.out) (fun hHeld => ?_)
  clear hK K
  refine nm_ (some 21) ?_
  refine on_ (i := 16) (N := some 23) HT_ (bl_ 19 131071) rfl rfl (fun K hK => ?_)
  refine gs_ Tryz.func105 #[.slice B3 y.length d3, .func (.func 134) #[] #[]] ?_
  refine (every0_calls B3 d3 134 y lowOk (by have := HYL.out; have := HLE.out; omega) (enters_of Tryz.func134 (by kernel_rfl) rfl) IA.out _ (Kd.R_reads' HR3.out).2.2).mono ?_
  rintro e w4 ⟨rfl, hb⟩
  have Y4 := Lib.hid (below_step Y3.out hb)
  clear hb
  refine ⟨_, rfl, ?_⟩
  refine hK.out _ _ (EQ.out _ Y4.out) (fun hHeld => ?_)
  clear hK K
  refine nm_ (some 23) ?_
  refine pu_ (i := 17) (N := some 24) HT_ (bl_ 19 262143) ?_
  refine pu_ (i := 18) (N := some 2) HT_ (bl_ 19 524287) ?_
  refine done_ (done_of HT_.out (by kernel_rfl)) ?_
  have HBE := Lib.hid (below_step HB.out Y4.out)
  go_wp2
  go_ret
  exact ⟨rfl, HBE.out⟩
theorem small_calls (T : TG) (A1 : Option Addr) (c1 : Nat) (A4 : Option Addr) (c4 : Nat) (A5 : Option Addr) (c5 : Nat) (A6 : Option Addr) (c6 : Nat) (w : World) (hR : RowsC w T A1 c1 A4 c4 A5 c5 A6 c6) (hf : Fit T) (hy : smallT T = true) : Calls Tryz.prog 103 #[.agg (tagCells T A1 c1 A4 c4 A5 c5 A6 c6)] w fun e W' => e = .returned (.bool (smallT T)) ∧ Below w.heap.size w W' := by
  have c : lowOk T.grand = true := by unfold smallT at hy; rw [Bool.and_eq_true] at hy; exact hy.2
  unfold smallT
  rw [c, Bool.and_true]
  exact small_yes T A1 c1 A4 c4 A5 c5 A6 c6 w hR hf c
set_option maxRecDepth 100000 in
set_option maxHeartbeats 8000000 in
theorem may_calls (g : Nat) (q : Bool) (s : ByteArray) (eg : ∀ args w, (callFunc g args).run Tryz.prog w = .ok (.enter g args) w)
    (hq : ∀ W, Calls Tryz.prog g #[.string s] W fun e W' => e = .returned (.bool q) ∧ Below W.heap.size W W') (W : World) :
    Calls Tryz.prog 142 #[.string s, .func (.func g) #[] #[]] W fun e W' => e = .returned (.bool (decide (s = ⟨#[]⟩) || q)) ∧ Below W.heap.size W W' := by
  have HQ := Lib.hid hq
  by_cases c : s = ⟨#[]⟩
  · have k1 : s.toList.isEmpty = true := by rw [c, bl_toList]; rfl
    rw [decide_eq_true c, Bool.true_or]
    clear hq c
    go_enter Tryz.func142, Tryz.ntmps142
    go_wp2
    go_ret
    exact ⟨rfl, Below.refl _ _⟩
  · have k1 : s.toList.isEmpty = false := List.isEmpty_eq_false_iff.2 (fun h => c (bl_inj (by rw [← bl_toList, h]; rfl)))
    rw [decide_eq_false c, Bool.false_or]
    clear hq c
    go_enter Tryz.func142, Tryz.ntmps142
    go_wp2_with (refine (HQ.out _).mono ?_; rintro e w2 ⟨rfl, hb⟩; have HB := Lib.hid hb; clear hb)
    go_ret
    exact ⟨rfl, HB.out⟩
set_option maxRecDepth 100000 in
set_option maxHeartbeats 8000000 in
theorem head_walk (T : TG) (A1 : Option Addr) (c1 : Nat) (A4 : Option Addr) (c4 : Nat) (A5 : Option Addr) (c5 : Nat) (A6 : Option Addr) (c6 : Nat) (w : World) (hR : RowsC w T A1 c1 A4 c4 A5 c5 A6 c6) (xl xs xr xe b1 b2 b3 : Bool)
    (CL0 : ∀ W, Calls Tryz.prog 115 #[.string T.lang] W fun e W' => e = .returned (.bool xl) ∧ Below W.heap.size W W')
    (CS0 : ∀ W, Calls Tryz.prog 142 #[.string T.script, .func (.func 79) #[] #[]] W fun e W' => e = .returned (.bool xs) ∧ Below W.heap.size W W')
    (CR0 : ∀ W, Calls Tryz.prog 142 #[.string T.region, .func (.func 80) #[] #[]] W fun e W' => e = .returned (.bool xr) ∧ Below W.heap.size W W')
    (CE0 : ∀ W, RowsC W T A1 c1 A4 c4 A5 c5 A6 c6 → Calls Tryz.prog 105 #[.slice A1 T.ext.length c1, .func (.func 116) #[] #[]] W fun e W' => e = .returned (.bool xe) ∧ Below W.heap.size W W')
    (n1 : decide ((T.ext.length : Int) ≤ 3) = b1) (n2 : ((T.ext.length : Int) == 0) = b2) (n3 : decide ((T.lang.size : Int) ≤ 3) = b3) :
    Calls Tryz.prog 108 #[.agg (tagCells T A1 c1 A4 c4 A5 c5 A6 c6)] w fun e W' => e = .returned (.bool (xl && (xs && (xr && (xe && (b1 && (b2 || b3))))))) ∧ Below w.heap.size w W' := by
  have CL := Lib.hid CL0
  have CS := Lib.hid CS0
  have CR := Lib.hid CR0
  have CE := Lib.hid CE0
  have RT := Lib.hid (hR.below (below_alloc (Below.refl _ _) (.cells (tagCells T A1 c1 A4 c4 A5 c5 A6 c6) 142)))
  have HB := Lib.hid (below_alloc (Below.refl w.heap.size w) (.cells (tagCells T A1 c1 A4 c4 A5 c5 A6 c6) 142))
  have K := Lib.hid (new_blk w (.cells (tagCells T A1 c1 A4 c4 A5 c5 A6 c6) 142))
  obtain ⟨q0, q1, q2, q3, q4, q5, q6, q7⟩ := cells8p K.out
  clear CL0 CS0 CR0 CE0 hR
  cases xl
  case' true => cases xs
  case' true.true => cases xr
  case' true.true.true => cases xe
  case' true.true.true.true => cases b1
  case' true.true.true.true.true => cases b2
  case' true.true.true.true.true.false => cases b3
  all_goals
    go_enter Tryz.func108, Tryz.ntmps108
    go_wp2_with (first
        | (go_at_call 115; refine (CL.out _).mono ?_; rintro e w2 ⟨rfl, hb⟩; have RT_ := Lib.hid (RT.out.below hb); have K_ := Lib.hid (blk_on K.out hb); have HB_ := Lib.hid (below_step HB.out hb); clear q0 q1 q2 q3 q4 q5 q6 q7 hb RT K HB; have RT := RT_; have K := K_; have HB := HB_; clear RT_ K_ HB_; obtain ⟨q0, q1, q2, q3, q4, q5, q6, q7⟩ := cells8p K.out)
        | (go_at_call 142; first | ((with_reducible refine (CS.out _).mono ?_); rintro e w3 ⟨rfl, hb⟩; have RT_ := Lib.hid (RT.out.below hb); have K_ := Lib.hid (blk_on K.out hb); have HB_ := Lib.hid (below_step HB.out hb); clear q0 q1 q2 q3 q4 q5 q6 q7 hb RT K HB; have RT := RT_; have K := K_; have HB := HB_; clear RT_ K_ HB_; obtain ⟨q0, q1, q2, q3, q4, q5, q6, q7⟩ := cells8p K.out; clear CS) | ((with_reducible refine (CR.out _).mono ?_); rintro e w4 ⟨rfl, hb⟩; have RT_ := Lib.hid (RT.out.below hb); have K_ := Lib.hid (blk_on K.out hb); have HB_ := Lib.hid (below_step HB.out hb); clear q0 q1 q2 q3 q4 q5 q6 q7 hb RT K HB; have RT := RT_; have K := K_; have HB := HB_; clear RT_ K_ HB_; obtain ⟨q0, q1, q2, q3, q4, q5, q6, q7⟩ := cells8p K.out; clear CR))
        | (go_at_call 105; refine (CE.out _ RT.out).mono ?_; rintro e w5 ⟨rfl, hb⟩; have RT_ := Lib.hid (RT.out.below hb); have K_ := Lib.hid (blk_on K.out hb); have HB_ := Lib.hid (below_step HB.out hb); clear q0 q1 q2 q3 q4 q5 q6 q7 hb RT K HB; have RT := RT_; have K := K_; have HB := HB_; clear RT_ K_ HB_; obtain ⟨q0, q1, q2, q3, q4, q5, q6, q7⟩ := cells8p K.out))
    go_ret
    exact ⟨rfl, HB.out⟩
theorem head_calls (T : TG) (A1 : Option Addr) (c1 : Nat) (A4 : Option Addr) (c4 : Nat) (A5 : Option Addr) (c5 : Nat) (A6 : Option Addr) (c6 : Nat) (w : World) (hR : RowsC w T A1 c1 A4 c4 A5 c5 A6 c6) (hf : Fit T) : Calls Tryz.prog 108 #[.agg (tagCells T A1 c1 A4 c4 A5 c5 A6 c6)] w fun e W' => e = .returned (.bool (Iso.isLang (bl T.lang) && (scrOk T && (regOk T && (extAll T && extFit T))))) ∧ Below w.heap.size w W' := by
  have e : extFit T = (decide ((T.ext.length : Int) ≤ 3) && (((T.ext.length : Int) == 0) || decide ((T.lang.size : Int) ≤ 3))) := by
    unfold extFit
    rw [show decide (T.ext.length ≤ 3) = decide ((T.ext.length : Int) ≤ 3) from decide_eq_decide.2 (by omega), show decide (T.lang.size ≤ 3) = decide ((T.lang.size : Int) ≤ 3) from decide_eq_decide.2 (by omega)]
    congr 2
    rw [Bool.eq_iff_iff, ← len_zero, beq_iff_eq]
  rw [e]
  exact head_walk T A1 c1 A4 c4 A5 c5 A6 c6 w hR _ _ _ _ _ _ _ (fun W => lang_calls _ hf.lang W) (may_calls _ _ _ (enters_of Tryz.func79 (by kernel_rfl) rfl) (fun W => scr_calls _ hf.script W))
    (may_calls _ _ _ (enters_of Tryz.func80 (by kernel_rfl) rfl) (fun W => reg_calls _ hf.region W))
    (fun W h => every0_calls A1 c1 _ T.ext (fun s => isExtl (bl s)) (by have := hf.next; omega) (enters_of Tryz.func116 (by kernel_rfl) rfl) (fun s hs W => ext_calls s (hf.ext s hs) W) W h.1.1) rfl rfl rfl
def KeepsX (W W' : World) : Prop := ∀ t, t ≠ 9 → t ≠ 26 → KeepsT t W W'
theorem KeepsX.below {W W1 W2 : World} (h : KeepsX W W1) (hb : Below W1.heap.size W1 W2) : KeepsX W W2 := fun t h1 h2 B cs hB => blk_on (h t h1 h2 B cs hB) hb
def TailIs (w : World) (bk : Nat) (l : List ByteArray) (W : World) : Prop := Below w.heap.size w W ∧ ∃ v : Value, W.heap[bk]? = some (.cells #[v] 26 (0, 0)) ∧ Kd.R Kd.string 9 W w.heap.size (fun _ => True) v l
theorem TailIs.below {w W W' : World} {bk : Nat} {l : List ByteArray} (h : TailIs w bk l W) (hb : Below W.heap.size W W') : TailIs w bk l W' := by
  obtain ⟨h1, v, h2, h3⟩ := h
  exact ⟨below_step h1 hb, v, blk_on h2 hb, Kd.R_below h3 hb⟩
theorem heap_set_other {W : World} {g k : Nat} {u : Value} {o : Obj} (h : W.heap[k]? = some o) (hne : k ≠ g) : (W.setCell ⟨g, 0, none⟩ u).heap[k]? = some o := (Below.heap_setCell W ⟨g, 0, none⟩ u k hne).trans h
def extP (x : S47) : Bool := Iso.isSing (bl x.f0) && (decide (0 < x.f1.length) && x.f1.all (subOk 2))
def ta2_T : Bool × List (List Nat × List Nat) := (true, [([], []), ([0], [0]), ([1], [1]), ([2, 2], [2]), ([3], [3]), ([4, 3], [3, 4]), ([5, 3], [3, 5]), ([6, 3], [3, 6]), ([3, 7], [3, 7]), ([8, 3], [8]), ([9], [9]), ([10, 9], [9, 10]), ([9, 9], [9]), ([11, 12, 12, 9], [9, 11, 12]), ([9, 13], [9, 13]), ([14, 13, 0, 1, 2, 3, 4, 5, 6, 7, 8, 9, 10, 11, 12, 13, 14], [14])])
def ta2_B : List Nat := [0, 1, 3, 7, 15, 31, 63, 127, 255, 511, 1023, 2047, 1023, 8191, 16383, 32767]
theorem ta2_tab : rtab .any (opsOf Tryz.f144 2) = ta2_T := by kernel_rfl
theorem ta2_bits : waitsOk ta2_T.2 ta2_B = true := by kernel_rfl
set_option maxRecDepth 100000 in
set_option maxHeartbeats 8000000 in
theorem tail1_0 (w : World) (bk : Nat) (x : S47) (E : Option Addr) (c : Nat) (acc : List ByteArray) (W : World) (hx : x.f0.size ≤ 1000000) (hs : ∀ s ∈ x.f1, s.size ≤ 1000000) (hn : x.f1.length ≤ 100000) (ha : acc.length ≤ 100000) (hbk : w.heap.size ≤ bk) (hT : TailIs w bk acc W) (hC : Kd.C Kd.string w E x.f1.length x.f1) (hb1 : Iso.isSing (bl x.f0) = false) :
    Calls Tryz.prog 144 #[.agg #[.string x.f0, .slice E x.f1.length c], .pointer (some ⟨bk, 0, none⟩)] W fun e W' => e = .returned (.bool (false)) ∧ TailIs w bk (acc ++ [x.f0]) W' ∧ KeepsX W W' := by
  obtain ⟨hb, v, hk, hr⟩ := hT
  obtain ⟨A, d, hv⟩ := Kd.R_slice hr
  subst hv
  obtain ⟨y, hy⟩ : ∃ y, acc ++ [x.f0] = y := ⟨_, rfl⟩
  have HY := Lib.hid hy
  rw [hy]
  clear hy
  have HN := Lib.hid hn
  have HS := Lib.hid hs
  have HC := Lib.hid hC
  have HA := Lib.hid ha
  have HBK := Lib.hid hbk
  have HK := Lib.hid hk
  have SI := Lib.hid (fun V => singR_calls x.f0 hx V)
  rw [hb1] at SI
  have HW := Lib.hid (show bk < W.heap.size from blk_lt hk)
  have z0 : (W.alloc (.cells #[.string x.f0, .slice E x.f1.length c] 47)).cell? ⟨bk, 0, none⟩ = some (.slice A acc.length d) := (blk_cell (blk_on hk (below_alloc (Below.refl _ _) _)) 0).trans rfl
  have GX := Lib.hid (new_blk W (.cells #[.string x.f0, .slice E x.f1.length c] 47))
  have GK := Lib.hid (blk_on hk (below_alloc (Below.refl W.heap.size W) (.cells #[.string x.f0, .slice E x.f1.length c] 47)))
  have HR := Lib.hid (Kd.R_alloc hr (.cells #[.string x.f0, .slice E x.f1.length c] 47))
  have HB := Lib.hid (below_step hb (below_alloc (Below.refl W.heap.size W) (.cells #[.string x.f0, .slice E x.f1.length c] 47)))
  have HBS := Lib.hid hb.size
  clear hn hs hC ha hbk hk hr hb hx hb1
  go_enter Tryz.func144, Tryz.ntmps144
  go_upto_region 2 with (at_builtin; refine Kd.R_append Kd.string (w0 := w) w.heap.size rfl (.tmp 4) (.tmp 7) 26 9 (.string ⟨#[]⟩) 16 rfl Tryz.underlying26 info9 rfl (by decide) (by omega) (.slice A acc.length d) acc x.f0 [.string x.f0] (fun _ => True) (fun _ => False) rfl ?aX rfl (fun _ hk => hk.elim) (fun _ _ => trivial) HR.out HB.out ?aS ?aL ?_; (case aX => first | rfl | (show Value.slice (some ⟨W.heap.size + 1, 0, none⟩) 1 1 = _; simp)); (case aS => exact HB.out.size); (case aL => have := HA.out; omega); intro v3_ w3 ho hb hg hat; rw [HY.out] at ho; obtain ⟨A3, d3, hv3⟩ := Kd.R_slice ho; subst hv3; have HR3 := Lib.hid ho; have HB3 := Lib.hid hb; have HG3 := Lib.hid hg; have GX3 := Lib.hid (blk_grown GX.out hg (Kd.R_ne HR.out GX.out (by decide))); have GK3 := Lib.hid (blk_grown GK.out hg (Kd.R_ne HR.out GK.out (by decide))); have z3 : w3.cell? ⟨bk, 0, none⟩ = some (.slice A acc.length d) := (blk_cell GK3.out 0).trans rfl; have f3 := blk_frozen GK3.out 0; clear ho hb hg hat z0)
  obtain ⟨W4, hW4⟩ : ∃ V, V = w3.setCell ⟨bk, 0, none⟩ (.slice A3 y.length d3) := ⟨_, rfl⟩
  rw [← hW4]
  have TI := Lib.hid (show TailIs w bk y W4 from by
    rw [hW4]
    exact ⟨HB3.out.setCell (p := ⟨bk, 0, none⟩) HBK.out _, .slice A3 y.length d3, blk_put GK3.out 0 _ rfl, Kd.R_set HR3.out GK3.out (by decide) 0 _⟩)
  have KX := Lib.hid (show KeepsX W W4 from fun t h1 h2 B cs hB => by
    rw [hW4]
    have hB1 := blk_on hB (below_alloc (Below.refl W.heap.size W) (.cells #[.string x.f0, .slice E x.f1.length c] 47))
    have hB3 := blk_grown hB1 HG3.out (Kd.R_ne HR.out hB1 (fun e => h1 e.symm))
    refine heap_set_other hB3 (fun e => ?_)
    rw [e, HK.out] at hB
    injection hB with hB
    injection hB with _ hB
    exact h2 hB.symm)
  obtain ⟨be, hbe⟩ : ∃ b, b = W.heap.size := ⟨_, rfl⟩
  have GX4 := Lib.hid (show W4.heap[be]? = some (.cells #[.string x.f0, .slice E x.f1.length c] 47) from by
    rw [hW4, hbe]
    exact heap_set_other GX3.out (by have := HW.out; omega))
  rw [← hbe]
  have EQ := Lib.hid (fun (w' : World) (h : Below W4.heap.size W4 w') => (⟨pw_cell_below h ((blk_cell GX4.out 0).trans rfl), pw_cell_below h ((blk_cell GX4.out 1).trans rfl)⟩ : w'.cell? ⟨be, 0, none⟩ = some (.string x.f0) ∧ w'.cell? ⟨be, 1, none⟩ = some (.slice E x.f1.length c)))
  have Y0 := Lib.hid (Below.refl W4.heap.size W4)
  clear hW4 hbe z3 f3 HR3 HB3 HG3 GX3 GK3 GX GK HR HB HK HW
  refine start_ (n := 16) (S := fun w' => w'.cell? ⟨be, 0, none⟩ = some (.string x.f0) ∧ w'.cell? ⟨be, 1, none⟩ = some (.slice E x.f1.length c)) (ds := []) #[false, false, false, false, false, false, false, false, false, false, false, false, false, false, false, false] (by kernel_rfl) rfl rfl (EQ.out _ (below_drew Y0.out)) (fun hHeld => ?_); refine with_tabW ta2_tab ta2_bits (fun HT_ HW_ => ?_)
  refine pu_ (i := 0) (N := some 9) HT_ (bl_ 16 1) ?_
  refine tk_ (i := 1) (N := some 10) HT_ HW_ (bl_ 16 3) hHeld ?_ (hy := by rintro w' ⟨s0, s1⟩; go_simp; with_reducible rfl)
  refine on_ (i := 2) (N := some 11) HT_ (bl_ 16 7) rfl rfl (fun K hK => ?_)
  refine gs_ Tryz.func122 #[.string x.f0] ?_
  refine (SI.out _).mono ?_
  rintro e w5 ⟨rfl, hb⟩
  have Y1 := Lib.hid (below_step (below_drew Y0.out) hb)
  clear hb
  refine ⟨_, rfl, ?_⟩
  refine hK.out _ _ (EQ.out _ Y1.out) (fun hHeld => ?_)
  clear hK K
  refine nm_ (some 11) ?_
  refine pu_ (i := 3) (N := some 12) HT_ (bl_ 16 15) ?_
  refine po_ (i := 4) (N := some 13) HT_ (bl_ 16 31) ?_
  refine po_ (i := 5) (N := some 14) HT_ (bl_ 16 63) ?_
  refine po_ (i := 6) (N := some 15) HT_ (bl_ 16 127) ?_
  refine po_ (i := 7) (N := some 16) HT_ (bl_ 16 255) ?_
  refine pu_ (i := 8) (N := some 17) HT_ (bl_ 16 511) ?_
  refine pu_ (i := 9) (N := some 18) HT_ (bl_ 16 1023) ?_
  refine po_ (i := 10) (N := some 19) HT_ (bl_ 16 2047) ?_
  refine po_ (i := 11) (N := some 20) HT_ (bl_ 16 4095) ?_
  refine po_ (i := 12) (N := some 21) HT_ (bl_ 16 8191) ?_
  refine po_ (i := 13) (N := some 22) HT_ (bl_ 16 16383) ?_
  refine pu_ (i := 14) (N := some 23) HT_ (bl_ 16 32767) ?_
  refine pu_ (i := 15) (N := some 3) HT_ (bl_ 16 65535) ?_
  refine done_ (done_of HT_.out (by kernel_rfl)) ?_
  have TE := Lib.hid (TI.out.below Y1.out)
  have KE := Lib.hid (KX.out.below Y1.out)
  go_wp2
  go_ret
  exact ⟨rfl, TE.out, KE.out⟩
set_option maxRecDepth 100000 in
set_option maxHeartbeats 8000000 in
theorem tail1_1 (w : World) (bk : Nat) (x : S47) (E : Option Addr) (c : Nat) (acc : List ByteArray) (W : World) (hx : x.f0.size ≤ 1000000) (hs : ∀ s ∈ x.f1, s.size ≤ 1000000) (hn : x.f1.length ≤ 100000) (ha : acc.length ≤ 100000) (hbk : w.heap.size ≤ bk) (hT : TailIs w bk acc W) (hC : Kd.C Kd.string w E x.f1.length x.f1) (hb1 : Iso.isSing (bl x.f0) = true) (hb2 : decide ((0 : Int) < (x.f1.length : Int)) = false) :
    Calls Tryz.prog 144 #[.agg #[.string x.f0, .slice E x.f1.length c], .pointer (some ⟨bk, 0, none⟩)] W fun e W' => e = .returned (.bool (false)) ∧ TailIs w bk (acc ++ [x.f0]) W' ∧ KeepsX W W' := by
  obtain ⟨hb, v, hk, hr⟩ := hT
  obtain ⟨A, d, hv⟩ := Kd.R_slice hr
  subst hv
  obtain ⟨y, hy⟩ : ∃ y, acc ++ [x.f0] = y := ⟨_, rfl⟩
  have HY := Lib.hid hy
  rw [hy]
  clear hy
  have HN := Lib.hid hn
  have HS := Lib.hid hs
  have HC := Lib.hid hC
  have HA := Lib.hid ha
  have HBK := Lib.hid hbk
  have HK := Lib.hid hk
  have SI := Lib.hid (fun V => singR_calls x.f0 hx V)
  rw [hb1] at SI
  have hb3 : decide (0 < x.f1.length) = false := by rw [← hb2]; exact decide_eq_decide.2 (by omega)
  have HW := Lib.hid (show bk < W.heap.size from blk_lt hk)
  have z0 : (W.alloc (.cells #[.string x.f0, .slice E x.f1.length c] 47)).cell? ⟨bk, 0, none⟩ = some (.slice A acc.length d) := (blk_cell (blk_on hk (below_alloc (Below.refl _ _) _)) 0).trans rfl
  have GX := Lib.hid (new_blk W (.cells #[.string x.f0, .slice E x.f1.length c] 47))
  have GK := Lib.hid (blk_on hk (below_alloc (Below.refl W.heap.size W) (.cells #[.string x.f0, .slice E x.f1.length c] 47)))
  have HR := Lib.hid (Kd.R_alloc hr (.cells #[.string x.f0, .slice E x.f1.length c] 47))
  have HB := Lib.hid (below_step hb (below_alloc (Below.refl W.heap.size W) (.cells #[.string x.f0, .slice E x.f1.length c] 47)))
  have HBS := Lib.hid hb.size
  clear hn hs hC ha hbk hk hr hb hx hb1
  go_enter Tryz.func144, Tryz.ntmps144
  go_upto_region 2 with (at_builtin; refine Kd.R_append Kd.string (w0 := w) w.heap.size rfl (.tmp 4) (.tmp 7) 26 9 (.string ⟨#[]⟩) 16 rfl Tryz.underlying26 info9 rfl (by decide) (by omega) (.slice A acc.length d) acc x.f0 [.string x.f0] (fun _ => True) (fun _ => False) rfl ?aX rfl (fun _ hk => hk.elim) (fun _ _ => trivial) HR.out HB.out ?aS ?aL ?_; (case aX => first | rfl | (show Value.slice (some ⟨W.heap.size + 1, 0, none⟩) 1 1 = _; simp)); (case aS => exact HB.out.size); (case aL => have := HA.out; omega); intro v3_ w3 ho hb hg hat; rw [HY.out] at ho; obtain ⟨A3, d3, hv3⟩ := Kd.R_slice ho; subst hv3; have HR3 := Lib.hid ho; have HB3 := Lib.hid hb; have HG3 := Lib.hid hg; have GX3 := Lib.hid (blk_grown GX.out hg (Kd.R_ne HR.out GX.out (by decide))); have GK3 := Lib.hid (blk_grown GK.out hg (Kd.R_ne HR.out GK.out (by decide))); have z3 : w3.cell? ⟨bk, 0, none⟩ = some (.slice A acc.length d) := (blk_cell GK3.out 0).trans rfl; have f3 := blk_frozen GK3.out 0; clear ho hb hg hat z0)
  obtain ⟨W4, hW4⟩ : ∃ V, V = w3.setCell ⟨bk, 0, none⟩ (.slice A3 y.length d3) := ⟨_, rfl⟩
  rw [← hW4]
  have TI := Lib.hid (show TailIs w bk y W4 from by
    rw [hW4]
    exact ⟨HB3.out.setCell (p := ⟨bk, 0, none⟩) HBK.out _, .slice A3 y.length d3, blk_put GK3.out 0 _ rfl, Kd.R_set HR3.out GK3.out (by decide) 0 _⟩)
  have KX := Lib.hid (show KeepsX W W4 from fun t h1 h2 B cs hB => by
    rw [hW4]
    have hB1 := blk_on hB (below_alloc (Below.refl W.heap.size W) (.cells #[.string x.f0, .slice E x.f1.length c] 47))
    have hB3 := blk_grown hB1 HG3.out (Kd.R_ne HR.out hB1 (fun e => h1 e.symm))
    refine heap_set_other hB3 (fun e => ?_)
    rw [e, HK.out] at hB
    injection hB with hB
    injection hB with _ hB
    exact h2 hB.symm)
  obtain ⟨be, hbe⟩ : ∃ b, b = W.heap.size := ⟨_, rfl⟩
  have GX4 := Lib.hid (show W4.heap[be]? = some (.cells #[.string x.f0, .slice E x.f1.length c] 47) from by
    rw [hW4, hbe]
    exact heap_set_other GX3.out (by have := HW.out; omega))
  rw [← hbe]
  have EQ := Lib.hid (fun (w' : World) (h : Below W4.heap.size W4 w') => (⟨pw_cell_below h ((blk_cell GX4.out 0).trans rfl), pw_cell_below h ((blk_cell GX4.out 1).trans rfl)⟩ : w'.cell? ⟨be, 0, none⟩ = some (.string x.f0) ∧ w'.cell? ⟨be, 1, none⟩ = some (.slice E x.f1.length c)))
  have Y0 := Lib.hid (Below.refl W4.heap.size W4)
  clear hW4 hbe z3 f3 HR3 HB3 HG3 GX3 GK3 GX GK HR HB HK HW
  refine start_ (n := 16) (S := fun w' => w'.cell? ⟨be, 0, none⟩ = some (.string x.f0) ∧ w'.cell? ⟨be, 1, none⟩ = some (.slice E x.f1.length c)) (ds := []) #[false, false, false, false, false, false, false, false, false, false, false, false, false, false, false, false] (by kernel_rfl) rfl rfl (EQ.out _ (below_drew Y0.out)) (fun hHeld => ?_); refine with_tabW ta2_tab ta2_bits (fun HT_ HW_ => ?_)
  refine pu_ (i := 0) (N := some 9) HT_ (bl_ 16 1) ?_
  refine tk_ (i := 1) (N := some 10) HT_ HW_ (bl_ 16 3) hHeld ?_ (hy := by rintro w' ⟨s0, s1⟩; go_simp; with_reducible rfl)
  refine on_ (i := 2) (N := some 11) HT_ (bl_ 16 7) rfl rfl (fun K hK => ?_)
  refine gs_ Tryz.func122 #[.string x.f0] ?_
  refine (SI.out _).mono ?_
  rintro e w5 ⟨rfl, hb⟩
  have Y1 := Lib.hid (below_step (below_drew Y0.out) hb)
  clear hb
  refine ⟨_, rfl, ?_⟩
  refine hK.out _ _ (EQ.out _ Y1.out) (fun hHeld => ?_)
  clear hK K
  refine nm_ (some 11) ?_
  refine pu_ (i := 3) (N := some 12) HT_ (bl_ 16 15) ?_
  refine pu_ (i := 4) (N := some 13) HT_ (bl_ 16 31) ?_
  refine tk_ (i := 5) (N := some 14) HT_ HW_ (bl_ 16 63) hHeld ?_ (hy := by rintro w' ⟨s0, s1⟩; go_simp; with_reducible rfl)
  refine pu_ (i := 6) (N := some 15) HT_ (bl_ 16 127) ?_
  refine pu_ (i := 7) (N := some 16) HT_ (bl_ 16 255) ?_
  refine pu_ (i := 8) (N := some 17) HT_ (bl_ 16 511) ?_
  refine pu_ (i := 9) (N := some 18) HT_ (bl_ 16 1023) ?_
  refine po_ (i := 10) (N := some 19) HT_ (bl_ 16 2047) ?_
  refine po_ (i := 11) (N := some 20) HT_ (bl_ 16 4095) ?_
  refine po_ (i := 12) (N := some 21) HT_ (bl_ 16 8191) ?_
  refine po_ (i := 13) (N := some 22) HT_ (bl_ 16 16383) ?_
  refine pu_ (i := 14) (N := some 23) HT_ (bl_ 16 32767) ?_
  refine pu_ (i := 15) (N := some 3) HT_ (bl_ 16 65535) ?_
  refine done_ (done_of HT_.out (by kernel_rfl)) ?_
  have TE := Lib.hid (TI.out.below Y1.out)
  have KE := Lib.hid (KX.out.below Y1.out)
  go_wp2
  go_ret
  exact ⟨rfl, TE.out, KE.out⟩
set_option maxRecDepth 100000 in
set_option maxHeartbeats 8000000 in
theorem tail1_2 (w : World) (bk : Nat) (x : S47) (E : Option Addr) (c : Nat) (acc : List ByteArray) (W : World) (hx : x.f0.size ≤ 1000000) (hs : ∀ s ∈ x.f1, s.size ≤ 1000000) (hn : x.f1.length ≤ 100000) (ha : acc.length ≤ 100000) (hbk : w.heap.size ≤ bk) (hT : TailIs w bk acc W) (hC : Kd.C Kd.string w E x.f1.length x.f1) (hb1 : Iso.isSing (bl x.f0) = true) (hb2 : decide ((0 : Int) < (x.f1.length : Int)) = true) :
    Calls Tryz.prog 144 #[.agg #[.string x.f0, .slice E x.f1.length c], .pointer (some ⟨bk, 0, none⟩)] W fun e W' => e = .returned (.bool (x.f1.all (subOk 2))) ∧ TailIs w bk (acc ++ [x.f0]) W' ∧ KeepsX W W' := by
  obtain ⟨hb, v, hk, hr⟩ := hT
  obtain ⟨A, d, hv⟩ := Kd.R_slice hr
  subst hv
  obtain ⟨y, hy⟩ : ∃ y, acc ++ [x.f0] = y := ⟨_, rfl⟩
  have HY := Lib.hid hy
  rw [hy]
  clear hy
  have HN := Lib.hid hn
  have HS := Lib.hid hs
  have HC := Lib.hid hC
  have HA := Lib.hid ha
  have HBK := Lib.hid hbk
  have HK := Lib.hid hk
  have SI := Lib.hid (fun V => singR_calls x.f0 hx V)
  rw [hb1] at SI
  have hb3 : decide (0 < x.f1.length) = true := by rw [← hb2]; exact decide_eq_decide.2 (by omega)
  have HW := Lib.hid (show bk < W.heap.size from blk_lt hk)
  have z0 : (W.alloc (.cells #[.string x.f0, .slice E x.f1.length c] 47)).cell? ⟨bk, 0, none⟩ = some (.slice A acc.length d) := (blk_cell (blk_on hk (below_alloc (Below.refl _ _) _)) 0).trans rfl
  have GX := Lib.hid (new_blk W (.cells #[.string x.f0, .slice E x.f1.length c] 47))
  have GK := Lib.hid (blk_on hk (below_alloc (Below.refl W.heap.size W) (.cells #[.string x.f0, .slice E x.f1.length c] 47)))
  have HR := Lib.hid (Kd.R_alloc hr (.cells #[.string x.f0, .slice E x.f1.length c] 47))
  have HB := Lib.hid (below_step hb (below_alloc (Below.refl W.heap.size W) (.cells #[.string x.f0, .slice E x.f1.length c] 47)))
  have HBS := Lib.hid hb.size
  clear hn hs hC ha hbk hk hr hb hx hb1
  go_enter Tryz.func144, Tryz.ntmps144
  go_upto_region 2 with (at_builtin; refine Kd.R_append Kd.string (w0 := w) w.heap.size rfl (.tmp 4) (.tmp 7) 26 9 (.string ⟨#[]⟩) 16 rfl Tryz.underlying26 info9 rfl (by decide) (by omega) (.slice A acc.length d) acc x.f0 [.string x.f0] (fun _ => True) (fun _ => False) rfl ?aX rfl (fun _ hk => hk.elim) (fun _ _ => trivial) HR.out HB.out ?aS ?aL ?_; (case aX => first | rfl | (show Value.slice (some ⟨W.heap.size + 1, 0, none⟩) 1 1 = _; simp)); (case aS => exact HB.out.size); (case aL => have := HA.out; omega); intro v3_ w3 ho hb hg hat; rw [HY.out] at ho; obtain ⟨A3, d3, hv3⟩ := Kd.R_slice ho; subst hv3; have HR3 := Lib.hid ho; have HB3 := Lib.hid hb; have HG3 := Lib.hid hg; have GX3 := Lib.hid (blk_grown GX.out hg (Kd.R_ne HR.out GX.out (by decide))); have GK3 := Lib.hid (blk_grown GK.out hg (Kd.R_ne HR.out GK.out (by decide))); have z3 : w3.cell? ⟨bk, 0, none⟩ = some (.slice A acc.length d) := (blk_cell GK3.out 0).trans rfl; have f3 := blk_frozen GK3.out 0; clear ho hb hg hat z0)
  obtain ⟨W4, hW4⟩ : ∃ V, V = w3.setCell ⟨bk, 0, none⟩ (.slice A3 y.length d3) := ⟨_, rfl⟩
  rw [← hW4]
  have TI := Lib.hid (show TailIs w bk y W4 from by
    rw [hW4]
    exact ⟨HB3.out.setCell (p := ⟨bk, 0, none⟩) HBK.out _, .slice A3 y.length d3, blk_put GK3.out 0 _ rfl, Kd.R_set HR3.out GK3.out (by decide) 0 _⟩)
  have KX := Lib.hid (show KeepsX W W4 from fun t h1 h2 B cs hB => by
    rw [hW4]
    have hB1 := blk_on hB (below_alloc (Below.refl W.heap.size W) (.cells #[.string x.f0, .slice E x.f1.length c] 47))
    have hB3 := blk_grown hB1 HG3.out (Kd.R_ne HR.out hB1 (fun e => h1 e.symm))
    refine heap_set_other hB3 (fun e => ?_)
    rw [e, HK.out] at hB
    injection hB with hB
    injection hB with _ hB
    exact h2 hB.symm)
  obtain ⟨be, hbe⟩ : ∃ b, b = W.heap.size := ⟨_, rfl⟩
  have GX4 := Lib.hid (show W4.heap[be]? = some (.cells #[.string x.f0, .slice E x.f1.length c] 47) from by
    rw [hW4, hbe]
    exact heap_set_other GX3.out (by have := HW.out; omega))
  rw [← hbe]
  have EQ := Lib.hid (fun (w' : World) (h : Below W4.heap.size W4 w') => (⟨pw_cell_below h ((blk_cell GX4.out 0).trans rfl), pw_cell_below h ((blk_cell GX4.out 1).trans rfl)⟩ : w'.cell? ⟨be, 0, none⟩ = some (.string x.f0) ∧ w'.cell? ⟨be, 1, none⟩ = some (.slice E x.f1.length c)))
  have Y0 := Lib.hid (Below.refl W4.heap.size W4)
  clear hW4 hbe z3 f3 HR3 HB3 HG3 GX3 GK3 GX GK HR HB HK HW
  refine start_ (n := 16) (S := fun w' => w'.cell? ⟨be, 0, none⟩ = some (.string x.f0) ∧ w'.cell? ⟨be, 1, none⟩ = some (.slice E x.f1.length c)) (ds := []) #[false, false, false, false, false, false, false, false, false, false, false, false, false, false, false, false] (by kernel_rfl) rfl rfl (EQ.out _ (below_drew Y0.out)) (fun hHeld => ?_); refine with_tabW ta2_tab ta2_bits (fun HT_ HW_ => ?_)
  refine pu_ (i := 0) (N := some 9) HT_ (bl_ 16 1) ?_
  refine tk_ (i := 1) (N := some 10) HT_ HW_ (bl_ 16 3) hHeld ?_ (hy := by rintro w' ⟨s0, s1⟩; go_simp; with_reducible rfl)
  refine on_ (i := 2) (N := some 11) HT_ (bl_ 16 7) rfl rfl (fun K hK => ?_)
  refine gs_ Tryz.func122 #[.string x.f0] ?_
  refine (SI.out _).mono ?_
  rintro e w5 ⟨rfl, hb⟩
  have Y1 := Lib.hid (below_step (below_drew Y0.out) hb)
  clear hb
  refine ⟨_, rfl, ?_⟩
  refine hK.out _ _ (EQ.out _ Y1.out) (fun hHeld => ?_)
  clear hK K
  refine nm_ (some 11) ?_
  refine pu_ (i := 3) (N := some 12) HT_ (bl_ 16 15) ?_
  refine pu_ (i := 4) (N := some 13) HT_ (bl_ 16 31) ?_
  refine tk_ (i := 5) (N := some 14) HT_ HW_ (bl_ 16 63) hHeld ?_ (hy := by rintro w' ⟨s0, s1⟩; go_simp; with_reducible rfl)
  refine pu_ (i := 6) (N := some 15) HT_ (bl_ 16 127) ?_
  refine pu_ (i := 7) (N := some 16) HT_ (bl_ 16 255) ?_
  refine pu_ (i := 8) (N := some 17) HT_ (bl_ 16 511) ?_
  refine pu_ (i := 9) (N := some 18) HT_ (bl_ 16 1023) ?_
  refine pu_ (i := 10) (N := some 19) HT_ (bl_ 16 2047) ?_
  refine tk_ (i := 11) (N := some 20) HT_ HW_ (bl_ 16 4095) hHeld ?_ (hy := by rintro w' ⟨s0, s1⟩; go_simp; with_reducible rfl)
  refine on_ (i := 12) (N := some 21) HT_ (bl_ 16 8191) rfl rfl (fun K hK => ?_)
  refine gs_ Tryz.func106 #[.int .i64 2] ?_
  refine (sub_calls 2 _).mono ?_
  rintro e w6 ⟨rfl, rfl⟩
  have Y2 := Lib.hid (below_alloc Y1.out (.cells #[.int .i64 2] 3))
  refine ⟨_, rfl, ?_⟩
  refine hK.out _ _ (EQ.out _ Y2.out) (fun hHeld => ?_)
  clear hK K
  refine nm_ (some 21) ?_
  refine on_ (i := 13) (N := some 22) HT_ (bl_ 16 16383) rfl rfl (fun K hK => ?_)
  refine gs_ Tryz.func105 #[.slice E x.f1.length c, .func (.func 138) #[] #[.pointer (some ⟨w5.heap.size, 0, none⟩)]] ?_
  refine (everySub_calls E c w5.heap.size 2 (by decide) (by decide) x.f1 (by have := HN.out; omega) HS.out _ ((blk_cell (new_blk w5 (.cells #[.int .i64 2] 3)) 0).trans rfl) (Kd.C_below HC.out (below_step TI.out.1 Y2.out))).mono ?_
  rintro e w7 ⟨rfl, hb⟩
  have Y3 := Lib.hid (below_step Y2.out hb)
  clear hb
  refine ⟨_, rfl, ?_⟩
  refine hK.out _ _ (EQ.out _ Y3.out) (fun hHeld => ?_)
  clear hK K
  refine nm_ (some 22) ?_
  refine pu_ (i := 14) (N := some 23) HT_ (bl_ 16 32767) ?_
  refine pu_ (i := 15) (N := some 3) HT_ (bl_ 16 65535) ?_
  refine done_ (done_of HT_.out (by kernel_rfl)) ?_
  have TE := Lib.hid (TI.out.below Y3.out)
  have KE := Lib.hid (KX.out.below Y3.out)
  go_wp2
  go_ret
  exact ⟨rfl, TE.out, KE.out⟩
theorem tail1_calls (w : World) (bk : Nat) (x : S47) (E : Option Addr) (c : Nat) (acc : List ByteArray) (W : World) (hx : x.f0.size ≤ 1000000) (hs : ∀ s ∈ x.f1, s.size ≤ 1000000) (hn : x.f1.length ≤ 100000) (ha : acc.length ≤ 100000) (hbk : w.heap.size ≤ bk) (hT : TailIs w bk acc W) (hC : Kd.C Kd.string w E x.f1.length x.f1) :
    Calls Tryz.prog 144 #[.agg #[.string x.f0, .slice E x.f1.length c], .pointer (some ⟨bk, 0, none⟩)] W fun e W' => e = .returned (.bool (extP x)) ∧ TailIs w bk (acc ++ [x.f0]) W' ∧ KeepsX W W' := by
  unfold extP
  rw [show decide (0 < x.f1.length) = decide ((0 : Int) < (x.f1.length : Int)) from decide_eq_decide.2 (by omega)]
  cases h1 : Iso.isSing (bl x.f0) with
  | false => rw [Bool.false_and]; exact tail1_0 w bk x E c acc W hx hs hn ha hbk hT hC h1
  | true =>
    rw [Bool.true_and]
    cases h2 : decide ((0 : Int) < (x.f1.length : Int)) with
    | false => rw [Bool.false_and]; exact tail1_1 w bk x E c acc W hx hs hn ha hbk hT hC h1 h2
    | true => rw [Bool.true_and]; exact tail1_2 w bk x E c acc W hx hs hn ha hbk hT hC h1 h2
def tl3_T : Bool × List (List Nat × List Nat) := (true, [([], []), ([0], [0]), ([1], [1]), ([2, 1, 1], [1, 2]), ([1, 3], [1, 3]), ([4, 3], [4]), ([5], [5]), ([6, 5], [5, 6]), ([7, 5], [5, 7]), ([8, 5, 5], [5, 8]), ([5, 9], [5, 9]), ([10, 9], [10]), ([11], [11]), ([12, 11], [11, 12]), ([13, 11], [11, 13]), ([14, 11, 11], [11, 14]), ([11, 15], [11, 15]), ([16, 15], [16]), ([17], [17]), ([18, 17], [17, 18]), ([19, 17], [17, 19]), ([17, 17], [17]), ([20, 21, 21, 17], [17, 20, 21]), ([17, 22], [17, 22]), ([23, 22, 0, 1, 2, 3, 4, 5, 6, 7, 8, 9, 10, 11, 12, 13, 14, 15, 16, 17, 18, 19, 20, 21, 22, 23], [23])])
def tl3_B : List Nat := [0, 1, 3, 7, 15, 31, 63, 127, 255, 511, 1023, 2047, 4095, 8191, 16383, 32767, 65535, 131071, 262143, 524287, 1048575, 262143, 4194303, 8388607, 16777215]
theorem tl3_tab : rtab .any (opsOf Tryz.f109 3) = tl3_T := by kernel_rfl
theorem tl3_bits : waitsOk tl3_T.2 tl3_B = true := by kernel_rfl
abbrev keysB2 (T : TG) : List ByteArray := T.exts.map fun x => x.f0
theorem tailX_calls (T : TG) (A1 : Option Addr) (c1 : Nat) (A4 : Option Addr) (c4 : Nat) (A5 : Option Addr) (c5 : Nat) (A6 : Option Addr) (c6 : Nat) (w : World) (hR : RowsC w T A1 c1 A4 c4 A5 c5 A6 c6) (hf : Fit T) (W : World) (bk : Nat) (hbk : w.heap.size ≤ bk) (hlt : bk < W.heap.size) (hT : TailIs w bk [] W) (g : Nat) (cs : Array Value) (hg : W.heap[g]? = some (Obj.cells cs 142 (0, 0))) :
    Calls Tryz.prog 143 #[.slice A5 T.exts.length c5, .func (.func 144) #[] #[.pointer (some ⟨bk, 0, none⟩)]] W fun e W' => e = .returned (.bool (T.exts.all extP)) ∧ ∃ i, i ≤ T.exts.length ∧ (T.exts.all extP = true → i = T.exts.length) ∧ TailIs w bk ((keysB2 T).take i) W' ∧ W'.heap[g]? = some (Obj.cells cs 142 (0, 0)) := by
  have hrow : ∀ i : Nat, ∃ u : Value, i < T.exts.length → ∃ (x : S47) (E : Option Addr) (c : Nat) (ad : Addr), T.exts[i]? = some x ∧ u = .agg #[.string x.f0, .slice E x.f1.length c] ∧ A5 = some ad ∧ w.cell? (ad.add (i * 2)) = some (.string x.f0) ∧ w.cell? ⟨(ad.add (i * 2)).block, (ad.add (i * 2)).off + 1, none⟩ = some (.slice E x.f1.length c) ∧ Kd.C Kd.string w E x.f1.length x.f1 := fun i => by
    by_cases hi : i < T.exts.length
    · obtain ⟨ad, E, c, ea, x0, x1, _, hC⟩ := at_T47 hR.2.2.1.1 (i : Int) (by omega) (by omega)
      rw [getR _ _ hi, Int.toNat_natCast] at x0 x1
      rw [getR _ _ hi] at hC
      exact ⟨.agg #[.string T.exts[i].f0, .slice E T.exts[i].f1.length c], fun _ => ⟨T.exts[i], E, c, ad, List.getElem?_eq_getElem hi, rfl, ea, x0, x1, hC⟩⟩
    · exact ⟨.nilIface, fun h => absurd h hi⟩
  obtain ⟨v, hv⟩ := Classical.axiomOfChoice hrow
  refine (allX1_calls A5 T.exts.length c5 144 bk v (fun i => extP (T.exts.getD i ⟨⟨#[]⟩, []⟩)) (fun i V => (TailIs w bk ((keysB2 T).take i) V ∧ bk < V.heap.size) ∧ V.heap[g]? = some (Obj.cells cs 142 (0, 0)))
    (by have := hf.nexts; omega) (enters_of Tryz.func144 (by kernel_rfl) rfl)
    (fun i V V' h hb => ⟨⟨h.1.1.below hb, Nat.lt_of_lt_of_le h.1.2 hb.size⟩, blk_on h.2 hb⟩)
    (fun i V hi h => ?_) (fun i V hi h => ?_) W ⟨⟨hT, hlt⟩, hg⟩).mono ?_
  · obtain ⟨x, E, c, ad, -, e, ea, x0, x1, -⟩ := hv i hi
    exact ⟨ad, _, _, ea, e, pw_cell_below h.1.1.1 x0, pw_cell_below h.1.1.1 x1⟩
  · obtain ⟨x, E, c, ad, hxi, e, -, -, -, hC⟩ := hv i hi
    have hm : x ∈ T.exts := List.mem_of_getElem? hxi
    have eg : T.exts.getD i ⟨⟨#[]⟩, []⟩ = x := by rw [List.getD_eq_getElem?_getD, hxi]; rfl
    rw [e, eg]
    have hl : ((keysB2 T).take i).length ≤ 100000 := by rw [List.length_take, List.length_map]; have := hf.nexts; omega
    refine (tail1_calls w bk x E c _ V (hf.keys x hm) (hf.subs x hm) (hf.nsubs x hm) hl hbk h.1.1 hC).mono ?_
    rintro e2 V' ⟨rfl, hT2, hK⟩
    have et : (keysB2 T).take (i + 1) = (keysB2 T).take i ++ [x.f0] := by rw [List.take_add_one, List.getElem?_map, hxi]; rfl
    refine ⟨rfl, ⟨⟨by rw [et]; exact hT2, ?_⟩, hK _ (by decide) (by decide) g cs h.2⟩, hK _ (by decide) (by decide)⟩
    obtain ⟨_, _, hk2, _⟩ := hT2
    exact blk_lt hk2
  · rintro e V' ⟨rfl, i, hi, hI, ha⟩
    have ea : allN (fun i => extP (T.exts.getD i ⟨⟨#[]⟩, []⟩)) T.exts.length = T.exts.all extP := by rw [allN_allX extP _ T.exts _ (Nat.le_refl _), List.take_length]
    rw [ea] at ha ⊢
    exact ⟨rfl, i, hi, ha, hI.1.1, hI.2⟩
set_option maxRecDepth 100000 in
set_option maxHeartbeats 8000000 in
theorem tail_4 (T : TG) (A1 : Option Addr) (c1 : Nat) (A4 : Option Addr) (c4 : Nat) (A5 : Option Addr) (c5 : Nat) (A6 : Option Addr) (c6 : Nat) (w : World) (hR : RowsC w T A1 c1 A4 c4 A5 c5 A6 c6) (hf : Fit T) (h0 : (T.exts.all extP) = true) (h1 : (onceB (keysB2 T) (keysB2 T).length) = true) (h2 : (T.vars.all (fun s => Iso.isVar (bl s))) = true) (h3 : (onceB T.vars T.vars.length) = true) :
    Calls Tryz.prog 109 #[.agg (tagCells T A1 c1 A4 c4 A5 c5 A6 c6)] w fun e W' => e = .returned (.bool (T.priv.all (subOk 1))) ∧ Below w.heap.size w W' := by
  have z1 : (w.alloc (.cells (tagCells T A1 c1 A4 c4 A5 c5 A6 c6) 142)).heap.size = w.heap.size + 1 := by simp
  have HX := Lib.hid (tailX_calls T A1 c1 A4 c4 A5 c5 A6 c6 w hR hf ((w.alloc (.cells (tagCells T A1 c1 A4 c4 A5 c5 A6 c6) 142)).alloc (.cells #[.slice none 0 0] 26)) (w.heap.size + 1) (by omega) (by simp) ⟨below_alloc (below_alloc (Below.refl _ _) _) _, .slice none 0 0, by have := new_blk (w.alloc (.cells (tagCells T A1 c1 A4 c4 A5 c5 A6 c6) 142)) (.cells #[.slice none 0 0] 26); rw [z1] at this; exact this, Kd.R_nil _ _ _ _ _⟩ w.heap.size (tagCells T A1 c1 A4 c4 A5 c5 A6 c6) (blk_on (new_blk w (.cells (tagCells T A1 c1 A4 c4 A5 c5 A6 c6) 142)) (below_alloc (Below.refl _ _) _)))
  rw [h0] at HX
  have HRT := Lib.hid hR
  have HF := Lib.hid hf
  have KL := Lib.hid (show (keysB2 T).length = T.exts.length from List.length_map _)
  have H1 := Lib.hid h1
  clear h1
  have H2 := Lib.hid h2
  clear h2
  have H3 := Lib.hid h3
  clear h3
  clear hR hf z1 h0
  go_enter Tryz.func109, Tryz.ntmps109
  go_upto_region 3 with (go_at_call 143; refine HX.out.mono ?_; rintro e w3 ⟨rfl, i, hi, ha, hT3, hg3⟩; obtain ⟨hb3, v3, hk3, hr3⟩ := hT3; obtain ⟨AK, dk, hv⟩ := Kd.R_slice hr3; subst hv; have HI := Lib.hid hi; have HA := Lib.hid ha; have HB := Lib.hid hb3; have GK := Lib.hid hk3; have GR := Lib.hid hg3; have HRK := Lib.hid hr3; clear hi ha hb3 hk3 hg3 hr3 HX)
  obtain ⟨lk, hlk⟩ : ∃ l, l = (keysB2 T).take i := ⟨_, rfl⟩
  rw [← hlk] at GK HRK
  have HLK := Lib.hid hlk
  clear hlk
  have EQ := Lib.hid (fun (w' : World) (h : Below w3.heap.size w3 w') => (⟨pw_cell_below h ((blk_cell GK.out 0).trans rfl), held8 GR.out h⟩ : w'.cell? ⟨w.heap.size + 1, 0, none⟩ = some (.slice AK lk.length dk) ∧ Held8 T A1 c1 A4 c4 A5 c5 A6 c6 (w.heap.size) w'))
  have Y0 := Lib.hid (Below.refl w3.heap.size w3)
  have HEQ := Lib.hid (show lk = keysB2 T from by rw [HLK.out, HA.out (by trivial), ← KL.out, List.take_length])
  have ON := Lib.hid (show ∀ V, Below w3.heap.size w3 V → Calls Tryz.prog 145 #[.slice AK lk.length dk] V fun e V' => e = .returned (.bool true) ∧ Below V.heap.size V V' from fun V hV => by
    have h1 := H1.out
    rw [← HEQ.out] at h1
    have := once_calls AK dk lk (by rw [HEQ.out, KL.out]; exact HF.out.nexts) (fun s hs => by
      rw [HEQ.out] at hs
      obtain ⟨x, hx, rfl⟩ := List.mem_map.1 hs
      have := HF.out.keys x hx
      omega) V (Kd.C_below (Kd.R_reads' HRK.out).2.2 hV)
    rw [h1] at this
    exact this)
  have VA := Lib.hid (show ∀ V, Below w.heap.size w V → Calls Tryz.prog 105 #[.slice A4 T.vars.length c4, .func (.func 119) #[] #[]] V fun e V' => e = .returned (.bool true) ∧ Below V.heap.size V V' from fun V hV => by
    have := every0_calls A4 c4 119 T.vars (fun s => Iso.isVar (bl s)) (by have := HF.out.nvars; omega) (enters_of Tryz.func119 (by kernel_rfl) rfl) (fun s hs V => var_calls s (HF.out.vars s hs) V) V (Kd.C_below HRT.out.2.1.1 hV)
    rw [H2.out] at this
    exact this)
  have OV := Lib.hid (show ∀ V, Below w.heap.size w V → Calls Tryz.prog 145 #[.slice A4 T.vars.length c4] V fun e V' => e = .returned (.bool true) ∧ Below V.heap.size V V' from fun V hV => by
    have := once_calls A4 c4 T.vars HF.out.nvars (fun s hs => by have := HF.out.vars s hs; omega) V (Kd.C_below HRT.out.2.1.1 hV)
    rw [H3.out] at this
    exact this)
  refine start_ (n := 25) (S := fun w' => w'.cell? ⟨w.heap.size + 1, 0, none⟩ = some (.slice AK lk.length dk) ∧ Held8 T A1 c1 A4 c4 A5 c5 A6 c6 (w.heap.size) w') (ds := []) #[false, false, false, false, false, false, false, false, false, false, false, false, false, false, false, false, false, false, false, false, false, false, false, false, false] (by kernel_rfl) rfl rfl (EQ.out _ (below_drew Y0.out)) (fun hHeld => ?_); refine with_tabW tl3_tab tl3_bits (fun HT_ HW_ => ?_)
  refine pu_ (i := 0) (N := some 10) HT_ (bl_ 25 1) ?_
  refine pu_ (i := 1) (N := some 11) HT_ (bl_ 25 3) ?_
  refine tk_ (i := 2) (N := some 12) HT_ HW_ (bl_ 25 7) hHeld ?_ (hy := by rintro w' ⟨s0, s1, s2, s3, s4, s5, s6, s7, s8⟩; go_simp; with_reducible rfl)
  refine on_ (i := 3) (N := some 13) HT_ (bl_ 25 15) rfl rfl (fun K hK => ?_)
  refine gs_ Tryz.func145 #[.slice AK lk.length dk] ?_
  refine (ON.out _ (below_drew Y0.out)).mono ?_
  rintro e w4 ⟨rfl, hb⟩
  have Y1 := Lib.hid (below_step (below_drew Y0.out) hb)
  clear hb
  refine ⟨_, rfl, ?_⟩
  refine hK.out _ _ (EQ.out _ Y1.out) (fun hHeld => ?_)
  clear hK K
  refine nm_ (some 13) ?_
  refine pu_ (i := 4) (N := some 14) HT_ (bl_ 25 31) ?_
  refine pu_ (i := 5) (N := some 15) HT_ (bl_ 25 63) ?_
  refine pu_ (i := 6) (N := some 16) HT_ (bl_ 25 127) ?_
  refine pu_ (i := 7) (N := some 17) HT_ (bl_ 25 255) ?_
  refine tk_ (i := 8) (N := some 18) HT_ HW_ (bl_ 25 511) hHeld ?_ (hy := by rintro w' ⟨s0, s1, s2, s3, s4, s5, s6, s7, s8⟩; go_simp; with_reducible rfl)
  refine on_ (i := 9) (N := some 19) HT_ (bl_ 25 1023) rfl rfl (fun K hK => ?_)
  refine gs_ Tryz.func105 #[.slice A4 T.vars.length c4, .func (.func 119) #[] #[]] ?_
  refine (VA.out _ (below_step HB.out Y1.out)).mono ?_
  rintro e w5 ⟨rfl, hb⟩
  have Y2 := Lib.hid (below_step Y1.out hb)
  clear hb
  refine ⟨_, rfl, ?_⟩
  refine hK.out _ _ (EQ.out _ Y2.out) (fun hHeld => ?_)
  clear hK K
  refine nm_ (some 19) ?_
  refine pu_ (i := 10) (N := some 20) HT_ (bl_ 25 2047) ?_
  refine pu_ (i := 11) (N := some 21) HT_ (bl_ 25 4095) ?_
  refine pu_ (i := 12) (N := some 22) HT_ (bl_ 25 8191) ?_
  refine pu_ (i := 13) (N := some 23) HT_ (bl_ 25 16383) ?_
  refine tk_ (i := 14) (N := some 24) HT_ HW_ (bl_ 25 32767) hHeld ?_ (hy := by rintro w' ⟨s0, s1, s2, s3, s4, s5, s6, s7, s8⟩; go_simp; with_reducible rfl)
  refine on_ (i := 15) (N := some 25) HT_ (bl_ 25 65535) rfl rfl (fun K hK => ?_)
  refine gs_ Tryz.func145 #[.slice A4 T.vars.length c4] ?_
  refine (OV.out _ (below_step HB.out Y2.out)).mono ?_
  rintro e w6 ⟨rfl, hb⟩
  have Y3 := Lib.hid (below_step Y2.out hb)
  clear hb
  refine ⟨_, rfl, ?_⟩
  refine hK.out _ _ (EQ.out _ Y3.out) (fun hHeld => ?_)
  clear hK K
  refine nm_ (some 25) ?_
  refine pu_ (i := 16) (N := some 26) HT_ (bl_ 25 131071) ?_
  refine pu_ (i := 17) (N := some 27) HT_ (bl_ 25 262143) ?_
  refine pu_ (i := 18) (N := some 28) HT_ (bl_ 25 524287) ?_
  refine pu_ (i := 19) (N := some 29) HT_ (bl_ 25 1048575) ?_
  refine tk_ (i := 20) (N := some 30) HT_ HW_ (bl_ 25 2097151) hHeld ?_ (hy := by rintro w' ⟨s0, s1, s2, s3, s4, s5, s6, s7, s8⟩; go_simp; with_reducible rfl)
  refine on_ (i := 21) (N := some 31) HT_ (bl_ 25 4194303) rfl rfl (fun K hK => ?_)
  refine gs_ Tryz.func106 #[.int .i64 1] ?_
  refine (sub_calls 1 _).mono ?_
  rintro e w7 ⟨rfl, rfl⟩
  have Y4 := Lib.hid (below_alloc Y3.out (.cells #[.int .i64 1] 3))
  refine ⟨_, rfl, ?_⟩
  refine hK.out _ _ (EQ.out _ Y4.out) (fun hHeld => ?_)
  clear hK K
  refine nm_ (some 31) ?_
  refine on_ (i := 22) (N := some 32) HT_ (bl_ 25 8388607) rfl rfl (fun K hK => ?_)
  refine gs_ Tryz.func105 #[.slice A6 T.priv.length c6, .func (.func 138) #[] #[.pointer (some ⟨w6.heap.size, 0, none⟩)]] ?_
  refine (everySub_calls A6 c6 w6.heap.size 1 (by decide) (by decide) T.priv (by have := HF.out.npriv; omega) HF.out.priv _ ((blk_cell (new_blk w6 (.cells #[.int .i64 1] 3)) 0).trans rfl) (Kd.C_below HRT.out.2.2.2.1 (below_step HB.out Y4.out))).mono ?_
  rintro e w8 ⟨rfl, hb⟩
  have Y5 := Lib.hid (below_step Y4.out hb)
  clear hb
  refine ⟨_, rfl, ?_⟩
  refine hK.out _ _ (EQ.out _ Y5.out) (fun hHeld => ?_)
  clear hK K
  refine nm_ (some 32) ?_
  refine pu_ (i := 23) (N := some 33) HT_ (bl_ 25 16777215) ?_
  refine pu_ (i := 24) (N := some 2) HT_ (bl_ 25 33554431) ?_
  refine done_ (done_of HT_.out (by kernel_rfl)) ?_
  have HBE := Lib.hid (below_step HB.out Y5.out)
  go_wp2
  go_ret
  exact ⟨rfl, HBE.out⟩
theorem tail_calls (T : TG) (A1 : Option Addr) (c1 : Nat) (A4 : Option Addr) (c4 : Nat) (A5 : Option Addr) (c5 : Nat) (A6 : Option Addr) (c6 : Nat) (w : World) (hR : RowsC w T A1 c1 A4 c4 A5 c5 A6 c6) (hf : Fit T) (hy : (T.exts.all extP && (onceB (keysB2 T) (keysB2 T).length && (T.vars.all (fun s => Iso.isVar (bl s)) && (onceB T.vars T.vars.length && T.priv.all (subOk 1))))) = true) : Calls Tryz.prog 109 #[.agg (tagCells T A1 c1 A4 c4 A5 c5 A6 c6)] w fun e W' => e = .returned (.bool (T.exts.all extP && (onceB (keysB2 T) (keysB2 T).length && (T.vars.all (fun s => Iso.isVar (bl s)) && (onceB T.vars T.vars.length && T.priv.all (subOk 1)))))) ∧ Below w.heap.size w W' := by
  have hz := hy
  simp only [Bool.and_eq_true] at hz
  rw [hz.1, hz.2.1, hz.2.2.1, hz.2.2.2.1, Bool.true_and, Bool.true_and, Bool.true_and, Bool.true_and]
  exact tail_4 T A1 c1 A4 c4 A5 c5 A6 c6 w hR hf hz.1 hz.2.1 hz.2.2.1 hz.2.2.2.1
theorem libJoin : ∀ (ps : List Str), Lib.join ps [45] = joinL ps
  | [] => rfl
  | [p] => by rw [Lib.join_one]; simp [joinL, tailJ]
  | p :: q :: t => by
    have ih := libJoin (q :: t)
    unfold Lib.join at ih ⊢
    rw [List.intercalate_cons_cons, ih]
    simp [joinL, tailJ]
theorem small_join (ps : List Str) (h : (joinL ps).length ≤ 4398046511104) (hl : ps.length ≤ 4398046511105) : split_Join.f (ps.map mk) = some (mk (joinL ps)) := by
  have e : (ps.map mk).map (fun x => x.data.toList) = ps := by
    rw [List.map_map]
    conv => rhs; rw [← List.map_id ps]
    exact List.map_congr_left fun p _ => bl_mk p
  have e2 : (⟨#[45]⟩ : ByteArray).data.toList = [45] := rfl
  unfold split_Join.f strings_Join.f
  rw [e, e2, libJoin, if_pos ⟨by rw [List.length_map]; omega, by omega⟩]
  rfl
theorem joinT {T : TG} (hf : Fit T) : split_Join.f (subsT T) = some (mk (textT T)) := by
  have h := small_join ((subsT T).map bl) (by have := hf.text; unfold textT at this; omega) (by rw [List.length_map]; have := hf.len; omega)
  rw [map_mk_bl] at h
  exact h
set_option maxRecDepth 100000 in
set_option maxHeartbeats 8000000 in
theorem strange_calls (T : TG) (A1 : Option Addr) (c1 : Nat) (A4 : Option Addr) (c4 : Nat) (A5 : Option Addr) (c5 : Nat) (A6 : Option Addr) (c6 : Nat) (w : World) (hR : RowsC w T A1 c1 A4 c4 A5 c5 A6 c6) (hf : Fit T) (hN : NamesIn w) : Calls Tryz.prog 110 #[.agg (tagCells T A1 c1 A4 c4 A5 c5 A6 c6)] w fun e W' => e = .returned (.bool (!isGrand (mk (textT T)))) ∧ Below w.heap.size w W' := by
  have HF := Lib.hid hf
  have HN := Lib.hid (hN.on (below_alloc (Below.refl _ _) (.cells (tagCells T A1 c1 A4 c4 A5 c5 A6 c6) 142)))
  have RT := Lib.hid (hR.below (below_alloc (Below.refl _ _) (.cells (tagCells T A1 c1 A4 c4 A5 c5 A6 c6) 142)))
  have HB := Lib.hid (below_alloc (Below.refl w.heap.size w) (.cells (tagCells T A1 c1 A4 c4 A5 c5 A6 c6) 142))
  obtain ⟨q0, q1, q2, q3, q4, q5, q6, q7⟩ := cells8p (new_blk w (.cells (tagCells T A1 c1 A4 c4 A5 c5 A6 c6) 142))
  obtain ⟨x, hx⟩ : ∃ x, x = mk (textT T) := ⟨_, rfl⟩
  have HJ := Lib.hid (joinT hf)
  rw [← hx] at HJ ⊢
  have HX := Lib.hid (show x.size ≤ 140737488355328 from by rw [hx, mk_size]; have := hf.text; omega)
  obtain ⟨gx, hgx⟩ : ∃ b, b = isGrand x := ⟨_, rfl⟩
  have HG := Lib.hid hgx
  rw [← hgx]
  clear hR hf hN hx hgx
  go_enter Tryz.func110, Tryz.ntmps110
  go_wp2_with (first
    | (go_at_call 135; refine (subT_calls HF.out RT.out).mono ?_; rintro e w2 ⟨v, rfl, hr, hb⟩; obtain ⟨B, d, hv⟩ := Kd.R_slice hr; subst hv; have HR2 := Lib.hid hr; have HB2 := Lib.hid (below_step HB.out hb); have HN2 := Lib.hid (HN.out.on hb); clear q0 q1 q2 q3 q4 q5 q6 q7 hb hr HB RT HN)
    | (go_at_call 101; refine (split_Join.calls B d (subsT T) x _ (Kd.R_reads' HR2.out).2.2 (Kd.R_reads' HR2.out).2.1 HJ.out).mono ?_; rintro e w3 ⟨rfl, hb⟩; have HB3 := Lib.hid (below_step HB2.out hb); have HN3 := Lib.hid (HN2.out.on hb); clear hb HB2 HN2 HR2)
    | (go_at_call 41; refine (Find_calls x HX.out _ HN3.out).mono ?_; rintro e w4 ⟨i, rfl, hb⟩; rw [← HG.out]; have HB4 := Lib.hid (below_step HB3.out hb); clear hb HB3 HN3))
  go_ret
  exact ⟨rfl, HB4.out⟩
theorem bare_eq (T : TG) (hf : Fit T) : tag_rules_bare.f T.lang T.ext T.script T.region T.vars T.exts T.priv T.grand = some (plainT T) := by
  have n1 := hf.next; have n2 := hf.nvars; have n3 := hf.nexts
  unfold tag_rules_bare.f plainT
  rw [show (wrap64 ((wrap64 ((T.ext.length : Int) + (T.vars.length : Int))) + (T.exts.length : Int))) = (T.ext.length : Int) + T.vars.length + T.exts.length by unfold wrap64; omega]
  by_cases h1 : T.lang = ⟨#[]⟩
  · rw [if_pos ((toL_nil _).2 h1), decide_eq_true h1, Bool.true_and]
    by_cases h2 : T.script = ⟨#[]⟩
    · rw [if_pos ((toL_nil _).2 h2), decide_eq_true h2, Bool.true_and]
      by_cases h3 : T.region = ⟨#[]⟩
      · rw [if_pos ((toL_nil _).2 h3), decide_eq_true h3, Bool.true_and]
        congr 1
        rw [Bool.eq_iff_iff, beq_iff_eq, Bool.and_eq_true, Bool.and_eq_true, ← len_zero, ← len_zero, ← len_zero]
        omega
      · rw [if_neg (fun h => h3 ((toL_nil _).1 h)), decide_eq_false h3, Bool.false_and, Bool.and_false]
    · rw [if_neg (fun h => h2 ((toL_nil _).1 h)), decide_eq_false h2, Bool.false_and, Bool.and_false]
  · rw [if_neg (fun h => h1 ((toL_nil _).1 h)), decide_eq_false h1, Bool.false_and]
theorem bare_calls (T : TG) (A1 : Option Addr) (c1 : Nat) (A4 : Option Addr) (c4 : Nat) (A5 : Option Addr) (c5 : Nat) (A6 : Option Addr) (c6 : Nat) (w : World) (hR : RowsC w T A1 c1 A4 c4 A5 c5 A6 c6) (hf : Fit T) : Calls Tryz.prog 104 #[.agg (tagCells T A1 c1 A4 c4 A5 c5 A6 c6)] w fun e W' => e = .returned (.bool (plainT T)) ∧ Below w.heap.size w W' :=
  tag_rules_bare.calls _ _ _ _ _ _ _ _ _ _ _ _ _ _ _ _ _ w hR.1.1 hR.1.2 hR.2.1.1 hR.2.1.2 hR.2.2.1.1 hR.2.2.1.2 hR.2.2.2.1 hR.2.2.2.2 (bare_eq T hf)
theorem tail_rows (T : TG) : (T.exts.all extP && (onceB (keysB2 T) (keysB2 T).length && (T.vars.all (fun s => Iso.isVar (bl s)) && (onceB T.vars T.vars.length && T.priv.all (subOk 1))))) = rowsT T := by
  have hv : (T.vars.all (fun s => Iso.isVar (bl s)) && onceB T.vars T.vars.length) = varsB [] T.vars := by
    rw [Bool.eq_iff_iff, varsB_is, Bool.and_eq_true, List.all_eq_true, onceB_is _ _ (Nat.le_refl _), List.take_length]
    exact ⟨fun ⟨a, b⟩ => ⟨a, b, fun u hu => by cases hu⟩, fun ⟨a, b, _⟩ => ⟨a, b⟩⟩
  have hk : (T.exts.all extP && onceB (keysB2 T) (keysB2 T).length) = keysB [] T.exts := by
    rw [Bool.eq_iff_iff, keysB_is, Bool.and_eq_true, List.all_eq_true, onceB_is _ _ (Nat.le_refl _), List.take_length]
    have e : (keysB2 T).map bl = keysOf T.exts := by rw [List.map_map]; rfl
    rw [e]
    have he : ∀ x : S47, extP x = true ↔ (Iso.isSing (bl x.f0) = true ∧ x.f1 ≠ [] ∧ ∀ s ∈ x.f1, okB s = true ∧ qTwo s = true) := fun x => by
      unfold extP
      rw [Bool.and_eq_true, Bool.and_eq_true, decide_eq_true_eq, List.length_pos_iff, List.all_eq_true]
      have hs : ∀ s : ByteArray, subOk 2 s = true ↔ (okB s = true ∧ qTwo s = true) := fun s => by rw [sub_two, Bool.and_eq_true]
      simp only [hs]
    simp only [he]
    exact ⟨fun ⟨a, b⟩ => ⟨a, b, fun u hu => by cases hu⟩, fun ⟨a, b, _⟩ => ⟨a, b⟩⟩
  unfold rowsT
  rw [← hv, ← hk]
  cases T.exts.all extP <;> cases onceB (keysB2 T) (keysB2 T).length <;> cases T.vars.all (fun s => Iso.isVar (bl s)) <;> cases onceB T.vars T.vars.length <;> simp
theorem body_rules (T : TG) : ((Iso.isLang (bl T.lang) && (scrOk T && (regOk T && (extAll T && extFit T)))) && (rowsT T && !isGrand (mk (textT T)))) = bodyT T := by
  unfold bodyT
  rw [isGrand_name, bl_mk]
  cases Iso.isLang (bl T.lang) <;> cases scrOk T <;> cases regOk T <;> cases extAll T <;> cases extFit T <;> cases rowsT T <;> cases isName (textT T) <;> rfl
set_option maxRecDepth 100000 in
set_option maxHeartbeats 8000000 in
theorem right1_calls (g : Nat) (u : Value) (r : Bool) (eg : ∀ args w, (callFunc g args).run Tryz.prog w = .ok (.enter g args) w) (W : World)
    (hq : Calls Tryz.prog g #[u] W fun e W' => e = .returned (.bool r) ∧ Below W.heap.size W W') :
    Calls Tryz.prog 102 #[.func (.func g) #[u] #[]] W fun e W' => e = .returned (.bool r) ∧ Below W.heap.size W W' := by
  have HQ := Lib.hid hq
  clear hq
  go_enter Tryz.func102, Tryz.ntmps102
  go_wp2_with (refine HQ.out.mono ?_; rintro e w2 ⟨rfl, hb⟩; have HB := Lib.hid hb; clear hb)
  go_ret
  exact ⟨rfl, HB.out⟩
theorem allN4 (a b c d : Bool) : allN (fun i => [a, b, c, d].getD i true) 4 = (a && (b && (c && d))) := by cases a <;> cases b <;> cases c <;> cases d <;> rfl
theorem rules_calls (T : TG) (A1 : Option Addr) (c1 : Nat) (A4 : Option Addr) (c4 : Nat) (A5 : Option Addr) (c5 : Nat) (A6 : Option Addr) (c6 : Nat) (w : World) (hR : RowsC w T A1 c1 A4 c4 A5 c5 A6 c6) (hf : Fit T) (hN : NamesIn w) (hy : smallT T = true) (hz : bodyT T = true) (V : World) (g : Nat) (hb : Below w.heap.size w V) (hg : V.heap[g]? = some (.cells #[.func (.func 103) #[.agg (tagCells T A1 c1 A4 c4 A5 c5 A6 c6)] #[], .func (.func 108) #[.agg (tagCells T A1 c1 A4 c4 A5 c5 A6 c6)] #[], .func (.func 109) #[.agg (tagCells T A1 c1 A4 c4 A5 c5 A6 c6)] #[], .func (.func 110) #[.agg (tagCells T A1 c1 A4 c4 A5 c5 A6 c6)] #[]] 25 (0, 0))) :
    Calls Tryz.prog 107 #[.slice (some ⟨g, 0, none⟩) 4 4, .func (.func 102) #[] #[]] V fun e W' => e = .returned (.bool (smallT T && bodyT T)) ∧ Below w.heap.size w W' := by
  have hr : (smallT T && bodyT T) = allN (fun i => [smallT T, (Iso.isLang (bl T.lang) && (scrOk T && (regOk T && (extAll T && extFit T)))), rowsT T, !isGrand (mk (textT T))].getD i true) 4 := by
    rw [← body_rules, allN4]
  rw [hr]
  refine (allF0_calls (some ⟨g, 0, none⟩) 4 4 102 (fun i => (#[.func (.func 103) #[.agg (tagCells T A1 c1 A4 c4 A5 c5 A6 c6)] #[], .func (.func 108) #[.agg (tagCells T A1 c1 A4 c4 A5 c5 A6 c6)] #[], .func (.func 109) #[.agg (tagCells T A1 c1 A4 c4 A5 c5 A6 c6)] #[], .func (.func 110) #[.agg (tagCells T A1 c1 A4 c4 A5 c5 A6 c6)] #[]] : Array Value).getD i .nilIface) _ (fun i W => Below w.heap.size w W ∧ W.heap[g]? = some (.cells #[.func (.func 103) #[.agg (tagCells T A1 c1 A4 c4 A5 c5 A6 c6)] #[], .func (.func 108) #[.agg (tagCells T A1 c1 A4 c4 A5 c5 A6 c6)] #[], .func (.func 109) #[.agg (tagCells T A1 c1 A4 c4 A5 c5 A6 c6)] #[], .func (.func 110) #[.agg (tagCells T A1 c1 A4 c4 A5 c5 A6 c6)] #[]] 25 (0, 0))) (by decide) (enters_of Tryz.func102 (by kernel_rfl) rfl)
    (fun i W W' h hb => ⟨below_step h.1 hb, blk_on h.2 hb⟩) (fun i W hi h => ?_) (fun i W hi h => ?_) V ⟨hb, hg⟩).mono fun e W' ⟨he, i, _, hI, _⟩ => ⟨he, hI.1⟩
  · refine ⟨_, rfl, ?_⟩
    rw [add_plain]
    refine (blk_cell h.2 i).trans ?_
    rcases i with _ | _ | _ | _ | i
    · rfl
    · rfl
    · rfl
    · rfl
    · omega
  · have R2 := hR.below h.1
    have fin : ∀ {e : Ending} {W' : World} {r : Bool}, (e = .returned (.bool r) ∧ Below W.heap.size W W') → (e = .returned (.bool r) ∧ (Below w.heap.size w W' ∧ W'.heap[g]? = some (.cells #[.func (.func 103) #[.agg (tagCells T A1 c1 A4 c4 A5 c5 A6 c6)] #[], .func (.func 108) #[.agg (tagCells T A1 c1 A4 c4 A5 c5 A6 c6)] #[], .func (.func 109) #[.agg (tagCells T A1 c1 A4 c4 A5 c5 A6 c6)] #[], .func (.func 110) #[.agg (tagCells T A1 c1 A4 c4 A5 c5 A6 c6)] #[]] 25 (0, 0))) ∧ KeepsT 143 W W') := fun ⟨he, hb⟩ => ⟨he, ⟨below_step h.1 hb, blk_on h.2 hb⟩, keepsT_below hb⟩
    rcases i with _ | _ | _ | _ | i
    · exact (right1_calls _ _ _ (enters_of Tryz.func103 (by kernel_rfl) rfl) W (small_calls T A1 c1 A4 c4 A5 c5 A6 c6 W R2 hf hy)).mono fun e W' h => fin h
    · exact (right1_calls _ _ _ (enters_of Tryz.func108 (by kernel_rfl) rfl) W (head_calls T A1 c1 A4 c4 A5 c5 A6 c6 W R2 hf)).mono fun e W' h => fin h
    · exact (right1_calls _ _ _ (enters_of Tryz.func109 (by kernel_rfl) rfl) W (tail_rows T ▸ tail_calls T A1 c1 A4 c4 A5 c5 A6 c6 W R2 hf (by rw [tail_rows]; unfold bodyT at hz; simp only [Bool.and_eq_true] at hz; exact hz.1.1.2))).mono fun e W' h => fin h
    · exact (right1_calls _ _ _ (enters_of Tryz.func110 (by kernel_rfl) rfl) W (strange_calls T A1 c1 A4 c4 A5 c5 A6 c6 W R2 hf (hN.on h.1))).mono fun e W' h => fin h
    · omega
def ri7_T : Bool × List (List Nat × List Nat) := (true, [([], []), ([0], [0]), ([1, 1], [1]), ([2], [2]), ([3, 2, 2], [2, 3]), ([2, 4], [2, 4]), ([5, 4], [5]), ([6], [6]), ([7, 6], [6, 7]), ([8, 6], [6, 8]), ([9, 6], [6, 9]), ([6, 10], [6, 10]), ([11, 6], [11]), ([12], [12]), ([13, 12], [12, 13]), ([12, 12], [12]), ([14, 15, 15, 12], [12, 14, 15]), ([12, 16], [12, 16]), ([17, 16, 0, 1, 2, 3, 4, 5, 6, 7, 8, 9, 10, 11, 12, 13, 14, 15, 16, 17], [17])])
def ri7_B : List Nat := [0, 1, 3, 7, 15, 31, 63, 127, 255, 511, 1023, 2047, 4095, 8191, 16383, 8191, 65535, 131071, 262143]
theorem ri7_tab : rtab .any (opsOf Tryz.f65 7) = ri7_T := by kernel_rfl
theorem ri7_bits : waitsOk ri7_T.2 ri7_B = true := by kernel_rfl
set_option maxRecDepth 100000 in
set_option maxHeartbeats 8000000 in
theorem right_grand (T : TG) (A1 : Option Addr) (c1 : Nat) (A4 : Option Addr) (c4 : Nat) (A5 : Option Addr) (c5 : Nat) (A6 : Option Addr) (c6 : Nat) (w : World) (hR : RowsC w T A1 c1 A4 c4 A5 c5 A6 c6) (hf : Fit T) (hN : NamesIn w) (hy : smallT T = true) (hg : T.grand ≠ ⟨#[]⟩) :
    Calls Tryz.prog 65 #[.agg (tagCells T A1 c1 A4 c4 A5 c5 A6 c6)] w fun e W' => e = .returned (.bool (smallT T && (plainT T && (T.priv.isEmpty && isGrand T.grand)))) ∧ Below w.heap.size w W' := by
  have k1 : T.grand.toList.isEmpty = false := List.isEmpty_eq_false_iff.2 (fun h => hg (bl_inj (by rw [← bl_toList, h]; rfl)))
  have z1 : (w.alloc (.cells (tagCells T A1 c1 A4 c4 A5 c5 A6 c6) 29)).heap.size = w.heap.size + 1 := by simp
  have hB0 := below_alloc (below_alloc (Below.refl w.heap.size w) (.cells (tagCells T A1 c1 A4 c4 A5 c5 A6 c6) 29)) (.cells (tagCells T A1 c1 A4 c4 A5 c5 A6 c6) 142)
  have K2 := new_blk (w.alloc (.cells (tagCells T A1 c1 A4 c4 A5 c5 A6 c6) 29)) (.cells (tagCells T A1 c1 A4 c4 A5 c5 A6 c6) 142)
  rw [z1] at K2
  have KT := Lib.hid (blk_on (new_blk w (.cells (tagCells T A1 c1 A4 c4 A5 c5 A6 c6) 29)) (below_alloc (Below.refl _ _) (.cells (tagCells T A1 c1 A4 c4 A5 c5 A6 c6) 142)))
  have KR := Lib.hid K2
  have HB := Lib.hid hB0
  have HRT := Lib.hid hR
  have HF := Lib.hid hf
  have HN := Lib.hid hN
  have CS := Lib.hid (show ∀ V, Below w.heap.size w V → Calls Tryz.prog 103 #[.agg (tagCells T A1 c1 A4 c4 A5 c5 A6 c6)] V fun e V' => e = .returned (.bool (smallT T)) ∧ Below V.heap.size V V' from fun V h => small_calls T A1 c1 A4 c4 A5 c5 A6 c6 V (hR.below h) hf hy)
  have CB := Lib.hid (show ∀ V, Below w.heap.size w V → Calls Tryz.prog 104 #[.agg (tagCells T A1 c1 A4 c4 A5 c5 A6 c6)] V fun e V' => e = .returned (.bool (plainT T)) ∧ Below V.heap.size V V' from fun V h => bare_calls T A1 c1 A4 c4 A5 c5 A6 c6 V (hR.below h) hf)
  have FI := Lib.hid (show ∀ V, Below w.heap.size w V → Calls Tryz.prog 41 #[.string T.grand] V fun e V' => FindSaid V T.grand e V' from fun V h => Find_calls T.grand (by have := hf.grand; omega) V (hN.on h))
  obtain ⟨gx, hgx⟩ : ∃ b, b = isGrand T.grand := ⟨_, rfl⟩
  have HG := Lib.hid hgx
  rw [← hgx]
  have hpz : ((T.priv.length : Int) == 0) = T.priv.isEmpty := by rw [Bool.eq_iff_iff, beq_iff_eq, len_zero]
  obtain ⟨pz, hz⟩ : ∃ b, b = T.priv.isEmpty := ⟨_, rfl⟩
  rw [← hz] at hpz ⊢
  have hpn : (T.priv.length == 0) = pz := by rw [← hpz, Bool.eq_iff_iff, beq_iff_eq, beq_iff_eq]; omega
  obtain ⟨sm, hs⟩ : ∃ b, b = smallT T := ⟨_, rfl⟩
  have HSM := hy
  rw [← hs] at CS HSM ⊢
  clear hs
  subst HSM
  obtain ⟨ba, hba⟩ : ∃ b, b = plainT T := ⟨_, rfl⟩
  rw [← hba] at CB ⊢
  obtain ⟨q0, q1, q2, q3, q4, q5, q6, q7⟩ := cells8p KT.out
  obtain ⟨r0, r1, r2, r3, r4, r5, r6, r7⟩ := cells8p KR.out
  clear hR hf hN hy hg z1 hB0 K2 hgx hz hba
  cases ba
  case' true => cases pz
  all_goals
    go_enter Tryz.func65, Tryz.ntmps65
    go_wp2_with (first
        | (go_at_call 41; refine (FI.out _ HB.out).mono ?_; rintro e w2 ⟨i, rfl, hb⟩; rw [← HG.out]; have KT_ := Lib.hid (blk_on KT.out hb); have KR_ := Lib.hid (blk_on KR.out hb); have HB_ := Lib.hid (below_step HB.out hb); clear q0 q1 q2 q3 q4 q5 q6 q7 r0 r1 r2 r3 r4 r5 r6 r7 hb KT KR HB FI HG; have KT := KT_; have KR := KR_; have HB := HB_; clear KT_ KR_ HB_; obtain ⟨q0, q1, q2, q3, q4, q5, q6, q7⟩ := cells8p KT.out; obtain ⟨r0, r1, r2, r3, r4, r5, r6, r7⟩ := cells8p KR.out)
        | (go_at_call 103; refine (CS.out _ HB.out).mono ?_; rintro e w3 ⟨rfl, hb⟩; have KT_ := Lib.hid (blk_on KT.out hb); have KR_ := Lib.hid (blk_on KR.out hb); have HB_ := Lib.hid (below_step HB.out hb); clear q0 q1 q2 q3 q4 q5 q6 q7 r0 r1 r2 r3 r4 r5 r6 r7 hb KT KR HB; have KT := KT_; have KR := KR_; have HB := HB_; clear KT_ KR_ HB_; obtain ⟨q0, q1, q2, q3, q4, q5, q6, q7⟩ := cells8p KT.out; obtain ⟨r0, r1, r2, r3, r4, r5, r6, r7⟩ := cells8p KR.out)
        | (go_at_call 104; refine (CB.out _ HB.out).mono ?_; rintro e w4 ⟨rfl, hb⟩; have KT_ := Lib.hid (blk_on KT.out hb); have KR_ := Lib.hid (blk_on KR.out hb); have HB_ := Lib.hid (below_step HB.out hb); clear q0 q1 q2 q3 q4 q5 q6 q7 r0 r1 r2 r3 r4 r5 r6 r7 hb KT KR HB; have KT := KT_; have KR := KR_; have HB := HB_; clear KT_ KR_ HB_; obtain ⟨q0, q1, q2, q3, q4, q5, q6, q7⟩ := cells8p KT.out; obtain ⟨r0, r1, r2, r3, r4, r5, r6, r7⟩ := cells8p KR.out))
    go_ret
    exact ⟨rfl, HB.out⟩
set_option maxRecDepth 100000 in
set_option maxHeartbeats 8000000 in
theorem right_priv3 (T : TG) (A1 : Option Addr) (c1 : Nat) (A4 : Option Addr) (c4 : Nat) (A5 : Option Addr) (c5 : Nat) (A6 : Option Addr) (c6 : Nat) (w : World) (hR : RowsC w T A1 c1 A4 c4 A5 c5 A6 c6) (hf : Fit T) (hN : NamesIn w) (hg : T.grand = ⟨#[]⟩) (hl : T.lang = ⟨#[]⟩) (h0 : smallT T = true) (h1 : plainT T = true) (h2 : decide ((0 : Int) < (T.priv.length : Int)) = true) :
    Calls Tryz.prog 65 #[.agg (tagCells T A1 c1 A4 c4 A5 c5 A6 c6)] w fun e W' => e = .returned (.bool (T.priv.all (subOk 1))) ∧ Below w.heap.size w W' := by
  have k1 : T.grand.toList.isEmpty = true := by rw [hg, bl_toList]; rfl
  have k2 : T.lang.toList.isEmpty = true := by rw [hl, bl_toList]; rfl
  have z1 : (w.alloc (.cells (tagCells T A1 c1 A4 c4 A5 c5 A6 c6) 29)).heap.size = w.heap.size + 1 := by simp
  have hB0 := below_alloc (below_alloc (Below.refl w.heap.size w) (.cells (tagCells T A1 c1 A4 c4 A5 c5 A6 c6) 29)) (.cells (tagCells T A1 c1 A4 c4 A5 c5 A6 c6) 142)
  have K2 := new_blk (w.alloc (.cells (tagCells T A1 c1 A4 c4 A5 c5 A6 c6) 29)) (.cells (tagCells T A1 c1 A4 c4 A5 c5 A6 c6) 142)
  rw [z1] at K2
  have KT := Lib.hid (blk_on (new_blk w (.cells (tagCells T A1 c1 A4 c4 A5 c5 A6 c6) 29)) (below_alloc (Below.refl _ _) (.cells (tagCells T A1 c1 A4 c4 A5 c5 A6 c6) 142)))
  have KR := Lib.hid K2
  have HB := Lib.hid hB0
  have HRT := Lib.hid hR
  have HF := Lib.hid hf
  have HN := Lib.hid hN
  have CS := Lib.hid (show ∀ V, Below w.heap.size w V → Calls Tryz.prog 103 #[.agg (tagCells T A1 c1 A4 c4 A5 c5 A6 c6)] V fun e V' => e = .returned (.bool (smallT T)) ∧ Below V.heap.size V V' from fun V h => small_calls T A1 c1 A4 c4 A5 c5 A6 c6 V (hR.below h) hf h0)
  have CB := Lib.hid (show ∀ V, Below w.heap.size w V → Calls Tryz.prog 104 #[.agg (tagCells T A1 c1 A4 c4 A5 c5 A6 c6)] V fun e V' => e = .returned (.bool (plainT T)) ∧ Below V.heap.size V V' from fun V h => bare_calls T A1 c1 A4 c4 A5 c5 A6 c6 V (hR.below h) hf)
  rw [h0] at CS
  rw [h1] at CB
  have h3 : decide (0 < T.priv.length) = true := by rw [← h2]; exact decide_eq_decide.2 (by omega)
  obtain ⟨q0, q1, q2, q3, q4, q5, q6, q7⟩ := cells8p KT.out
  obtain ⟨r0, r1, r2, r3, r4, r5, r6, r7⟩ := cells8p KR.out
  clear hR hf hN hg hl z1 hB0 K2 h0 h1
  go_enter Tryz.func65, Tryz.ntmps65
  go_upto_region 7 with (fail)
  obtain ⟨W0, hW0⟩ : ∃ W0, W0 = (w.alloc (.cells (tagCells T A1 c1 A4 c4 A5 c5 A6 c6) 29)).alloc (.cells (tagCells T A1 c1 A4 c4 A5 c5 A6 c6) 142) := ⟨_, rfl⟩
  rw [← hW0]
  rw [← hW0] at KT KR HB
  have EQ := Lib.hid (fun (w' : World) (h : Below W0.heap.size W0 w') => (⟨held8 KT.out h, held8 KR.out h⟩ : Held8 T A1 c1 A4 c4 A5 c5 A6 c6 (w.heap.size) w' ∧ Held8 T A1 c1 A4 c4 A5 c5 A6 c6 (w.heap.size + 1) w'))
  have Y0 := Lib.hid (Below.refl W0.heap.size W0)
  clear hW0 q0 q1 q2 q3 q4 q5 q6 q7 r0 r1 r2 r3 r4 r5 r6 r7
  refine start_ (n := 19) (S := fun w' => Held8 T A1 c1 A4 c4 A5 c5 A6 c6 (w.heap.size) w' ∧ Held8 T A1 c1 A4 c4 A5 c5 A6 c6 (w.heap.size + 1) w') (ds := []) #[false, false, false, false, false, false, false, false, false, false, false, false, false, false, false, false, false, false, false] (by kernel_rfl) rfl rfl (EQ.out _ (below_drew Y0.out)) (fun hHeld => ?_); refine with_tabW ri7_tab ri7_bits (fun HT_ HW_ => ?_)
  refine tk_ (i := 0) (N := some 38) HT_ HW_ (bl_ 19 1) hHeld ?_ (hy := by rintro w' ⟨⟨s0, s1, s2, s3, s4, s5, s6, s7⟩, s8, s9, s10, s11, s12, s13, s14, s15⟩; go_simp; with_reducible rfl)
  refine on_ (i := 1) (N := some 39) HT_ (bl_ 19 3) rfl rfl (fun K hK => ?_)
  refine gs_ Tryz.func103 #[.agg (tagCells T A1 c1 A4 c4 A5 c5 A6 c6)] ?_
  refine (CS.out _ (below_step HB.out (below_drew Y0.out))).mono ?_
  rintro e w1 ⟨rfl, hb⟩
  have Y1 := Lib.hid (below_step (below_drew Y0.out) hb)
  clear hb
  refine ⟨_, rfl, ?_⟩
  refine hK.out _ _ (EQ.out _ Y1.out) (fun hHeld => ?_)
  clear hK K
  refine nm_ (some 39) ?_
  refine pu_ (i := 2) (N := some 40) HT_ (bl_ 19 7) ?_
  refine tk_ (i := 3) (N := some 41) HT_ HW_ (bl_ 19 15) hHeld ?_ (hy := by rintro w' ⟨⟨s0, s1, s2, s3, s4, s5, s6, s7⟩, s8, s9, s10, s11, s12, s13, s14, s15⟩; go_simp; with_reducible rfl)
  refine on_ (i := 4) (N := some 42) HT_ (bl_ 19 31) rfl rfl (fun K hK => ?_)
  refine gs_ Tryz.func104 #[.agg (tagCells T A1 c1 A4 c4 A5 c5 A6 c6)] ?_
  refine (CB.out _ (below_step HB.out Y1.out)).mono ?_
  rintro e w2 ⟨rfl, hb⟩
  have Y2 := Lib.hid (below_step Y1.out hb)
  clear hb
  refine ⟨_, rfl, ?_⟩
  refine hK.out _ _ (EQ.out _ Y2.out) (fun hHeld => ?_)
  clear hK K
  refine nm_ (some 42) ?_
  refine pu_ (i := 5) (N := some 43) HT_ (bl_ 19 63) ?_
  refine pu_ (i := 6) (N := some 44) HT_ (bl_ 19 127) ?_
  refine pu_ (i := 7) (N := some 45) HT_ (bl_ 19 255) ?_
  refine tk_ (i := 8) (N := some 46) HT_ HW_ (bl_ 19 511) hHeld ?_ (hy := by rintro w' ⟨⟨s0, s1, s2, s3, s4, s5, s6, s7⟩, s8, s9, s10, s11, s12, s13, s14, s15⟩; go_simp; with_reducible rfl)
  refine pu_ (i := 9) (N := some 47) HT_ (bl_ 19 1023) ?_
  refine pu_ (i := 10) (N := some 48) HT_ (bl_ 19 2047) ?_
  refine pu_ (i := 11) (N := some 49) HT_ (bl_ 19 4095) ?_
  refine pu_ (i := 12) (N := some 50) HT_ (bl_ 19 8191) ?_
  refine pu_ (i := 13) (N := some 51) HT_ (bl_ 19 16383) ?_
  refine tk_ (i := 14) (N := some 52) HT_ HW_ (bl_ 19 32767) hHeld ?_ (hy := by rintro w' ⟨⟨s0, s1, s2, s3, s4, s5, s6, s7⟩, s8, s9, s10, s11, s12, s13, s14, s15⟩; go_simp; with_reducible rfl)
  refine on_ (i := 15) (N := some 53) HT_ (bl_ 19 65535) rfl rfl (fun K hK => ?_)
  refine gs_ Tryz.func106 #[.int .i64 1] ?_
  refine (sub_calls 1 _).mono ?_
  rintro e w3 ⟨rfl, rfl⟩
  have Y3 := Lib.hid (below_alloc Y2.out (.cells #[.int .i64 1] 3))
  refine ⟨_, rfl, ?_⟩
  refine hK.out _ _ (EQ.out _ Y3.out) (fun hHeld => ?_)
  clear hK K
  refine nm_ (some 53) ?_
  refine on_ (i := 16) (N := some 54) HT_ (bl_ 19 131071) rfl rfl (fun K hK => ?_)
  refine gs_ Tryz.func105 #[.slice A6 T.priv.length c6, .func (.func 138) #[] #[.pointer (some ⟨w2.heap.size, 0, none⟩)]] ?_
  refine (everySub_calls A6 c6 w2.heap.size 1 (by decide) (by decide) T.priv (by have := HF.out.npriv; omega) HF.out.priv _ ((blk_cell (new_blk w2 (.cells #[.int .i64 1] 3)) 0).trans rfl) (Kd.C_below HRT.out.2.2.2.1 (below_step HB.out Y3.out))).mono ?_
  rintro e w4 ⟨rfl, hb⟩
  have Y4 := Lib.hid (below_step Y3.out hb)
  clear hb
  refine ⟨_, rfl, ?_⟩
  refine hK.out _ _ (EQ.out _ Y4.out) (fun hHeld => ?_)
  clear hK K
  refine nm_ (some 54) ?_
  refine pu_ (i := 17) (N := some 55) HT_ (bl_ 19 262143) ?_
  refine pu_ (i := 18) (N := some 2) HT_ (bl_ 19 524287) ?_
  refine done_ (done_of HT_.out (by kernel_rfl)) ?_
  have HBE := Lib.hid (below_step HB.out Y4.out)
  go_wp2
  go_ret
  exact ⟨rfl, HBE.out⟩
set_option maxRecDepth 100000 in
set_option maxHeartbeats 8000000 in
theorem right_lang (T : TG) (A1 : Option Addr) (c1 : Nat) (A4 : Option Addr) (c4 : Nat) (A5 : Option Addr) (c5 : Nat) (A6 : Option Addr) (c6 : Nat) (w : World) (hR : RowsC w T A1 c1 A4 c4 A5 c5 A6 c6) (hf : Fit T) (hN : NamesIn w) (hy : smallT T = true) (hz : bodyT T = true) (hg : T.grand = ⟨#[]⟩) (hl : T.lang ≠ ⟨#[]⟩) :
    Calls Tryz.prog 65 #[.agg (tagCells T A1 c1 A4 c4 A5 c5 A6 c6)] w fun e W' => e = .returned (.bool (smallT T && bodyT T)) ∧ Below w.heap.size w W' := by
  have k1 : T.grand.toList.isEmpty = true := by rw [hg, bl_toList]; rfl
  have k2 : T.lang.toList.isEmpty = false := List.isEmpty_eq_false_iff.2 (fun h => hl (bl_inj (by rw [← bl_toList, h]; rfl)))
  have z1 : (w.alloc (.cells (tagCells T A1 c1 A4 c4 A5 c5 A6 c6) 29)).heap.size = w.heap.size + 1 := by simp
  have hB0 := below_alloc (below_alloc (Below.refl w.heap.size w) (.cells (tagCells T A1 c1 A4 c4 A5 c5 A6 c6) 29)) (.cells (tagCells T A1 c1 A4 c4 A5 c5 A6 c6) 142)
  have K2 := new_blk (w.alloc (.cells (tagCells T A1 c1 A4 c4 A5 c5 A6 c6) 29)) (.cells (tagCells T A1 c1 A4 c4 A5 c5 A6 c6) 142)
  rw [z1] at K2
  have KT := Lib.hid (blk_on (new_blk w (.cells (tagCells T A1 c1 A4 c4 A5 c5 A6 c6) 29)) (below_alloc (Below.refl _ _) (.cells (tagCells T A1 c1 A4 c4 A5 c5 A6 c6) 142)))
  have KR := Lib.hid K2
  have HB := Lib.hid hB0
  have HRT := Lib.hid hR
  have HF := Lib.hid hf
  have HN := Lib.hid hN
  have z2 : ((w.alloc (.cells (tagCells T A1 c1 A4 c4 A5 c5 A6 c6) 29)).alloc (.cells (tagCells T A1 c1 A4 c4 A5 c5 A6 c6) 142)).heap.size = w.heap.size + 1 + 1 := by simp
  have RC := rules_calls T A1 c1 A4 c4 A5 c5 A6 c6 w hR hf hN hy hz (((w.alloc (.cells (tagCells T A1 c1 A4 c4 A5 c5 A6 c6) 29)).alloc (.cells (tagCells T A1 c1 A4 c4 A5 c5 A6 c6) 142)).alloc (.cells #[.func (.func 103) #[.agg (tagCells T A1 c1 A4 c4 A5 c5 A6 c6)] #[], .func (.func 108) #[.agg (tagCells T A1 c1 A4 c4 A5 c5 A6 c6)] #[], .func (.func 109) #[.agg (tagCells T A1 c1 A4 c4 A5 c5 A6 c6)] #[], .func (.func 110) #[.agg (tagCells T A1 c1 A4 c4 A5 c5 A6 c6)] #[]] 25)) (w.heap.size + 1 + 1) (below_alloc hB0 _) (by have := new_blk ((w.alloc (.cells (tagCells T A1 c1 A4 c4 A5 c5 A6 c6) 29)).alloc (.cells (tagCells T A1 c1 A4 c4 A5 c5 A6 c6) 142)) (.cells #[.func (.func 103) #[.agg (tagCells T A1 c1 A4 c4 A5 c5 A6 c6)] #[], .func (.func 108) #[.agg (tagCells T A1 c1 A4 c4 A5 c5 A6 c6)] #[], .func (.func 109) #[.agg (tagCells T A1 c1 A4 c4 A5 c5 A6 c6)] #[], .func (.func 110) #[.agg (tagCells T A1 c1 A4 c4 A5 c5 A6 c6)] #[]] 25); rw [z2] at this; exact this)
  have HRC := Lib.hid RC
  obtain ⟨q0, q1, q2, q3, q4, q5, q6, q7⟩ := cells8p KT.out
  obtain ⟨r0, r1, r2, r3, r4, r5, r6, r7⟩ := cells8p KR.out
  clear hR hf hN hy hz hg hl z1 z2 hB0 K2 RC
  go_enter Tryz.func65, Tryz.ntmps65
  go_wp2_with (go_at_call 107; refine HRC.out.mono ?_; rintro e w3 ⟨rfl, hb⟩; have HB3 := Lib.hid hb; clear hb)
  go_ret
  exact ⟨rfl, HB3.out⟩
theorem Right_calls (T : TG) (A1 : Option Addr) (c1 : Nat) (A4 : Option Addr) (c4 : Nat) (A5 : Option Addr) (c5 : Nat) (A6 : Option Addr) (c6 : Nat) (w : World) (hR : RowsC w T A1 c1 A4 c4 A5 c5 A6 c6) (hf : Fit T) (hN : NamesIn w) (hy : rightT T = true) :
    Calls Tryz.prog 65 #[.agg (tagCells T A1 c1 A4 c4 A5 c5 A6 c6)] w fun e W' => e = .returned (.bool (rightT T)) ∧ Below w.heap.size w W' := by
  unfold rightT at hy ⊢
  rw [Bool.and_eq_true] at hy
  obtain ⟨hs, hy⟩ := hy
  by_cases hg : T.grand = ⟨#[]⟩
  · rw [if_pos hg] at hy ⊢
    by_cases hl : T.lang = ⟨#[]⟩
    · rw [if_pos hl] at hy ⊢
      rw [Bool.and_eq_true, Bool.and_eq_true] at hy
      have hp : decide ((0 : Int) < (T.priv.length : Int)) = true := by
        have h2 := hy.1.2
        cases e : T.priv with
        | nil => rw [e] at h2; cases h2
        | cons x l => exact decide_eq_true (by simp)
      rw [hs, hy.1.1, hy.1.2, Bool.true_and, Bool.true_and, Bool.true_and]
      exact right_priv3 T A1 c1 A4 c4 A5 c5 A6 c6 w hR hf hN hg hl hs hy.1.1 hp
    · rw [if_neg hl] at hy ⊢
      exact right_lang T A1 c1 A4 c4 A5 c5 A6 c6 w hR hf hN hs hy hg hl
  · rw [if_neg hg, ← isGrand_name, Bool.and_assoc]
    exact right_grand T A1 c1 A4 c4 A5 c5 A6 c6 w hR hf hN hs hg
end Go.Proofs.YtejnfbfikadpdaaGreatDoor.P
