-- Written for this claim by the session's own run of the print, functions proved by hand put in.
import Derived.Test.YtojglflamecnkaaSq
import Derived.Test.YtojglflamecnkaaPx0
import Derived.Test.YtojglflamecnkaaPx2
namespace Go.Proofs.Ytojglflamecnkaa.P
open Go.RowKit Go.Proofs.YtojglflamecnkaaW.PrintWords Go.Proofs.YtojglflamecnkaaW.PrintLast Go.Proofs.YtojglflamecnkaaW.PrintMore
open Go.Proofs.YtojglflamecnkaaW.PrintWords renaming below_alloc → wA_, pw_below_drewN → wN_, below_drew1 → wD_, below_step → wT_
open Go.Proofs.YtojglflamecnkaaW.PrintWords.Kd renaming R_alloc → rA_, R_drewN → rN_, R_drew → rD_
attribute [local go_sem] max2_int min2_int max_two min_two max_three min_three max_four min_four   -- for this text's walks alone
set_option linter.unusedVariables false
set_option linter.unusedSimpArgs false
def strings_Join.f (l0 : List ByteArray) (a1 : ByteArray) : Option ByteArray := if l0.length ≤ 140737488355328 ∧ (Lib.join (l0.map (·.data.toList)) a1.data.toList).length ≤ 140737488355328 then some ⟨(Lib.join (l0.map (·.data.toList)) a1.data.toList).toArray⟩ else none
theorem strings_Join.calls (A0 : Option Addr) (c0 : Nat) (l0 : List ByteArray) (a1 : ByteArray) (r : ByteArray) (w : World) (hr0 : Kd.C Kd.string w A0 l0.length l0) (hc0 : l0.length ≤ c0) (h : strings_Join.f l0 a1 = some r) :
    Calls Try.prog 67 #[.slice A0 l0.length c0, .string a1] w fun e w' => e = .returned (.string r) ∧ Below w.heap.size w w' := by
  unfold strings_Join.f at h
  by_cases c : l0.length ≤ 140737488355328 ∧ (Lib.join (l0.map (·.data.toList)) a1.data.toList).length ≤ 140737488355328
  · rw [if_pos c] at h
    obtain rfl := Option.some.inj h
    cases l0 with
    | nil =>
      refine (Try.strings_Join_none A0 c0 a1 w).mono ?_
      rintro e w' ⟨rfl, rfl⟩
      exact ⟨rfl, Below.refl _ _⟩
    | cons x xs =>
      have hr := Kd.reads_of_C (enc := Value.string) (d := ByteArray.empty) (h1 := fun _ => rfl) hr0
      obtain ⟨ad, rfl, hcell⟩ := hr.2.2 (by simp)
      have h0 := hcell 0 (by simp)
      have hs : ad.spot = none := by
        cases hs : ad.spot with
        | none => rfl
        | some q =>
          have e0 : ad.add 0 = ad := by simp [Addr.add]
          rw [e0] at h0
          unfold World.cell? at h0
          split at h0
          · simp [hs] at h0
          · simp at h0
      obtain ⟨bk, o, sp⟩ := ad
      obtain rfl : sp = none := hs
      have hlt : bk < w.heap.size := World.block_lt_of_cell? w _ h0
      refine (Try.strings_Join bk o c0 (x :: xs) a1 w (fun j y hj => ?_) hlt c.1 hc0 c.2).mono ?_
      · have hl := (List.getElem?_eq_some_iff.1 hj).1
        have := hcell j hl
        rw [List.getD_eq_getElem?_getD, hj] at this
        have e1 : (⟨bk, o, none⟩ : Addr).add j = ⟨bk, o + j, none⟩ := by unfold Addr.add; split <;> simp_all
        rw [e1] at this
        exact this
      · rintro e w' ⟨rfl, hb⟩
        exact ⟨rfl, hb⟩
  · rw [if_neg c] at h; cases h
def split_Join.f (l0 : List ByteArray) : Option (ByteArray) := (strings_Join.f l0 (⟨#[45]⟩ : ByteArray)).bind fun am => (some am)
set_option maxHeartbeats 8000000 in
set_option maxRecDepth 100000 in
theorem split_Join.calls (A0 : Option Addr) (c0 : Nat) (l0 : List ByteArray) (r : ByteArray) (w : World) (hr0 : Kd.C Kd.string w A0 l0.length l0) (hc0 : l0.length ≤ c0) (h : split_Join.f l0 = some r) :
  Calls Try.prog 31 #[.slice A0 l0.length c0] w fun e w' => e = .returned (.string r) ∧ Below w.heap.size w w' := by
 have aJ := Aside0.mk hr0
 have aK := Aside0.mk hc0
 clear hr0 hc0
 have HB := Aside0.mk (Below.refl w.heap.size w)
 have H : ((strings_Join.f l0 (⟨#[45]⟩ : ByteArray)).bind fun am => (some am)) = some r := h
 clear h
 replace H := Option.bind_eq_some_iff.mp H
 obtain ⟨am, aG, H⟩ := H
 replace H : (some am) = some r := H
 have A2 := Aside0.mk aG
 clear aG
 obtain rfl := Option.some.inj H
 go_enter Try.func31, Try.ntmps31
 go_wp2_with (first | ((with_reducible refine gate_callee (f := 67) rfl ?_); refine goesL_ (some 4) rfl rfl Try.func67 (by kernel_rfl) rfl #[.slice A0 l0.length c0, .string (⟨#[45]⟩ : ByteArray)] rfl Qm ?_; (with_reducible refine (strings_Join.calls _ _ l0 (⟨#[45]⟩ : ByteArray) am _ ?side1 ?side2 A2.out).mono ?_); (case side1 => repeat (first | exact aJ.out | (with_reducible refine Kd.C_alloc ?_ _) | (with_reducible refine Kd.C_drewN ?_ _) | (with_reducible refine Kd.C_drew ?_))); (case side2 => exact aK.out); rintro e w3 ⟨rfl, hb⟩; refine ⟨_, rfl, ?_⟩; have af := Aside0.mk (wT_ (Qw HB.out) hb); clear HB; have HB := af; clear af; (try clear hb); (try clear hb2); (try clear hk); (try clear hi)))
 go_ret
 exact ⟨Qe, Qw HB.out⟩
section
open Go.Shelf Go.Proofs.Ytojglflamecnkaa
attribute [local go_sem] Oper.semAt_some
theorem push_set (h : Array Obj) (o o' : Obj) : (h.push o).setIfInBounds h.size o' = h.push o' := by
  first
  | (simp; done)
  | (rw [← Array.toList_inj]; simp [Array.setIfInBounds]; done)
  | (apply Array.ext
     · simp
     · intro i h1 h2
       by_cases hh : h.size = i
       · subst hh; simp
       · have hlt : i < h.size := by simp at h2; omega
         rw [Array.getElem_setIfInBounds]
         simp [hh, Array.getElem_push, hlt])
theorem ne0 (W : World) : (binOp .neq 23 .nilFunc .nilFunc).run Try.prog W = .ok (.bool false) W := by
  first
  | rfl
  | (simp [binOp, run_underlying Try.underlying23, Op.equal, Result.andThen]; done)
theorem ne1 (n : Nat) (W : World) : (binOp .neq 23 (.func (.func n) #[] #[]) .nilFunc).run Try.prog W = .ok (.bool true) W := by
  first
  | rfl
  | (simp [binOp, run_underlying Try.underlying23, Op.equal, Result.andThen]; done)
theorem setObj_alloc (w : World) (o o' : Obj) : ({ w.alloc o with heap := (w.alloc o).heap.setIfInBounds w.heap.size o' } : World) = w.alloc o' := by
  show ({ w with heap := (w.heap.push o).setIfInBounds w.heap.size o' } : World) = { w with heap := w.heap.push o' }
  congr 1
  exact push_set w.heap o o'
theorem map_put (w : World) (es : Array MapEntry) (c : Nat) (k : Int) (v : Value) (hn : Instr.findNow (.int .i64) (.int .i64 k) es.toList 0 = some none) :
    (Instr.mapUpdate 49 (.map (some w.heap.size)) (.int .i64 k) v).run Try.prog (w.alloc (.map es c)) = .ok () (w.alloc (.map (es.push { key := .int .i64 k, val := v, born := c }) (c + 1))) := by
  have hb : (w.alloc (.map es c)).heap[w.heap.size]? = some (.map es c) := by show (w.heap.push _)[w.heap.size]? = _; simp
  have hc : (Instr.checkKey false 10000 3 (.int .i64 k)).run Try.prog (w.alloc (.map es c)) = .ok () (w.alloc (.map es c)) := MapKept.run_checkKey (k := .int .i64 k) Try.underlying3 (by simp [MapKept.IsKey]) false 9999
  simp [Instr.mapUpdate, run_underlying Try.underlying49, MapKept.run_getObj_map hb, hc, MapKept.run_findKey Try.underlying3 hn, MapKept.run_setObj_map _ hb, Result.andThen, -World.alloc_eq]
  exact setObj_alloc w _ _
def caseMap : Array MapEntry := #[{ key := .int .i64 2, val := .func (.func 27) #[] #[], born := 0 }, { key := .int .i64 4, val := .func (.func 28) #[] #[], born := 1 }]
theorem map_look (W : World) (b : Nat) (hb : W.heap[b]? = some (.map caseMap 2)) (n : Int) :
    (Instr.lookup 49 (.map (some b)) (.int .i64 n) false).run Try.prog W = .ok (if n = 2 then .func (.func 27) #[] #[] else if n = 4 then .func (.func 28) #[] #[] else .nilFunc) W := by
  have hc : (Instr.checkKey false 10000 3 (.int .i64 n)).run Try.prog W = .ok () W := MapKept.run_checkKey (k := .int .i64 n) Try.underlying3 (by simp [MapKept.IsKey]) false 9999
  have hf : Instr.findNow (.int .i64) (.int .i64 n) caseMap.toList 0 = some (if n = 2 then some (0, .func (.func 27) #[] #[]) else if n = 4 then some (1, .func (.func 28) #[] #[]) else none) := by
    by_cases h2 : n = 2
    · subst h2; rfl
    · by_cases h4 : n = 4
      · subst h4; rfl
      · have e2 : (n == 2) = false := by simp [h2]
        have e4 : (n == 4) = false := by simp [h4]
        simp [caseMap, Instr.findNow, Instr.sameNow, h2, h4, e2, e4]
  have he : caseMap.isEmpty = false := rfl
  simp only [Instr.lookup, run_underlying Try.underlying49, MapKept.run_getObj_map hb, Sem.run_bind, Sem.run_pure, Result.andThen, he, hc, MapKept.run_findKey Try.underlying3 hf]
  by_cases h2 : n = 2
  · simp [h2, Result.andThen]
  · by_cases h4 : n = 4
    · simp [h2, h4, Result.andThen]
    · simp [h2, h4, Result.andThen, Try.zeroValue23]
theorem keepsOthers_below {W W' : World} (h : Below W.heap.size W W') : KeepsOthers W W' := ⟨h.size, fun k _ hk _ => (h.block k (Array.getElem?_eq_some_iff.1 hk).1).trans hk⟩
theorem keepsCell_below {B : Nat} {W W' : World} (h : Below W.heap.size W W') : KeepsCell B W W' := fun _ hv => pw_cell_below h hv
theorem boxed_below {W W' : World} {B : Nat} {t : TypeId} {v : Value} (h : Boxed W B t v) (hb : Below W.heap.size W W') : Boxed W' B t v := (hb.block B h.lt).trans h
theorem ownsRow_below {W W' : World} {b e sz n : Nat} {v : Value} {xs : List Value} (h : W.ownsRow b e sz v n xs) (hb : Below W.heap.size W W') : W'.ownsRow b e sz v n xs := by
  refine ⟨h.1, h.2.imp id ?_⟩
  rintro ⟨g, cap, cur, h1, h2, h3, h4⟩
  exact ⟨g, cap, cur, h1, h2, (hb.block g (Array.getElem?_eq_some_iff.1 h3).1).trans h3, h4⟩
theorem keepsCell_setCell {B C : Nat} (W : World) (v : Value) (h : B ≠ C) : KeepsCell B W (W.setCell ⟨C, 0, none⟩ v) := fun u hu => by
  rw [World.cell?_setCell_other _ _ _ _ (fun e => h (congrArg Addr.block e).symm)]; exact hu
def lowB (p : ByteArray) : ByteArray := Iso.mk ((Iso.bl p).mapIdx fun _ c => Iso.lowC c)
def upB (p : ByteArray) : ByteArray := Iso.mk ((Iso.bl p).mapIdx fun _ c => Iso.upC c)
def tiB (p : ByteArray) : ByteArray := Iso.mk ((Iso.bl p).mapIdx fun i c => if i = 0 then Iso.upC c else Iso.lowC c)
theorem lowB_size (p : ByteArray) : (lowB p).size = p.size := by unfold lowB; rw [Iso.mk_size, List.length_mapIdx, Iso.bl_len]
def caseOne (s : Bool) (x : Nat × ByteArray) : ByteArray :=
  if 0 < x.1 ∧ s = false then (if (lowB x.2).size = 2 then upB (lowB x.2) else if (lowB x.2).size = 4 then tiB (lowB x.2) else lowB x.2) else lowB x.2
def oneB (x : Nat × ByteArray) : Bool := decide (x.2.size = 1)
def caseRun (s : Bool) : List (Nat × ByteArray) → List ByteArray
  | [] => []
  | x :: t => caseOne (s || oneB x) x :: caseRun (s || oneB x) t
theorem caseRun_snoc (x : Nat × ByteArray) : ∀ (pre : List (Nat × ByteArray)) (s : Bool), caseRun s (pre ++ [x]) = caseRun s pre ++ [caseOne (s || pre.any oneB || oneB x) x]
  | [], s => by simp [caseRun]
  | y :: pre, s => by
    simp only [List.cons_append, caseRun, caseRun_snoc x pre, List.any_cons, Bool.or_assoc]
theorem caseRun_length : ∀ (s : Bool) (l : List (Nat × ByteArray)), (caseRun s l).length = l.length
  | _, [] => rfl
  | s, x :: t => by simp [caseRun, caseRun_length]
structure CInv (w0 W : World) (B : Nat) (a0 : ByteArray) (v : Value) (s : Bool) (n : Nat) (xs : List Value) : Prop where
  out : Boxed W (B + 2) 25 v
  row : W.ownsRow (B + 5) 9 1 v n xs
  bel : Below (B + 2) w0 W
  str : Boxed W (B + 4) 9 (.string a0)
  flag : Boxed W (B + 3) 4 (.bool s)
theorem CInv.flagged {w0 W : World} {B : Nat} {a0 : ByteArray} {v : Value} {s : Bool} {n : Nat} {xs : List Value} (h : CInv w0 W B a0 v s n xs) (s' : Bool) : CInv w0 (W.setCell ⟨B + 3, 0, none⟩ (.bool s')) B a0 v s' n xs := by
  have hne : ∀ j, j < B + 5 → some j ≠ v.ownBlock := fun j hj e => by have := own_base h.row j e.symm; omega
  have hk : ∀ C, C ≠ B + 3 → (W.setCell ⟨B + 3, 0, none⟩ (.bool s')).heap[C]? = W.heap[C]? := fun C hC => Below.heap_setCell W ⟨B + 3, 0, none⟩ (.bool s') C hC
  exact ⟨(hk _ (by omega)).trans h.out, h.row.kept (grownBy_setCell' W (B + 3) (.bool s')) (.inr (hne (B + 3) (by omega)).symm), h.bel.setCell (p := ⟨B + 3, 0, none⟩) (by simp) _, (hk _ (by omega)).trans h.str, h.flag.set _⟩
theorem CInv.below {w0 W W' : World} {B : Nat} {a0 : ByteArray} {v : Value} {s : Bool} {n : Nat} {xs : List Value} (h : CInv w0 W B a0 v s n xs) (hB : B + 2 ≤ W.heap.size) (hb : Below W.heap.size W W') : CInv w0 W' B a0 v s n xs :=
  ⟨boxed_below h.out hb, ownsRow_below h.row hb, below_then h.bel hB hb, boxed_below h.str hb, boxed_below h.flag hb⟩
theorem eachGo_small : ∀ (l : Iso.Str) (a : Nat) (acc : Iso.Str), ∀ p ∈ Iso.eachGo a acc l, p.2.length ≤ acc.length + l.length
  | [], a, acc, p, hp => by
    rw [Iso.eachGo, List.mem_singleton] at hp
    subst hp; simp
  | c :: t, a, acc, p, hp => by
    unfold Iso.eachGo at hp
    split at hp
    · rcases List.mem_cons.1 hp with rfl | hp
      · simp
      · have := eachGo_small t _ _ p hp
        simp only [List.length_cons, List.length_nil] at *; omega
    · have := eachGo_small t _ _ p hp
      simp only [List.length_append, List.length_cons, List.length_nil] at *; omega
theorem pc_size {a0 : ByteArray} (x : Pc a0) : x.1.2.size ≤ a0.size := by
  have h : x.1 ∈ eachB a0 := x.2
  unfold eachB at h
  obtain ⟨p, hp, e⟩ := List.mem_map.1 h
  rw [← e]
  have := eachGo_small (Iso.bl a0) 0 [] p hp
  rw [Iso.bl_len, List.length_nil, Nat.zero_add] at this
  exact this
theorem below_base {m n : Nat} {w W : World} (h : Below n w W) (hm : m ≤ n) : Below m w W := ⟨h.os, h.tape, h.output, h.size, fun k hk => h.block k (by omega)⟩
theorem hinfoS : (Try.prog.info? 9).map (fun i => (i.zero, i.size, i.bytes)) = some (some (.string ⟨#[]⟩), 1, 16) := by kernel_rfl
def render_Case.f (a0 : ByteArray) : Option ByteArray := if a0.size < 8796093022207 then split_Join.f (caseRun false (eachB a0)) else none
set_option maxRecDepth 100000 in
set_option maxHeartbeats 8000000 in
theorem render_Case.calls (a0 : ByteArray) (r : ByteArray) (w : World) (h : render_Case.f a0 = some r) :
    Calls Try.prog 11 #[.string a0] w fun e w' => e = .returned (.string r) ∧ Below w.heap.size w w' := by
  unfold render_Case.f at h
  have hs : a0.size < 8796093022207 := by
    by_cases c : a0.size < 8796093022207
    · exact c
    · rw [if_neg c] at h; cases h
  rw [if_pos hs] at h
  have HJ := Lib.hid h
  clear h
  have hlen : (eachB a0).length ≤ 8796093022207 := by
    unfold eachB
    rw [List.length_map]
    have := Iso.eachGo_length (Iso.bl a0) 0 []
    rw [Iso.bl_len] at this
    unfold Iso.each; omega
  refine (callsIn_wide (n := 3)).1 ?_
  obtain ⟨i0, hi, hz0, hz1, hz2⟩ := info_parts hinfoS
  have m0 := run_makeMap (P := Try.prog) 49 w
  have m1 := map_put w #[] 0 2 (.func (.func 27) #[] #[]) rfl
  have m2 := map_put w #[{ key := .int .i64 2, val := .func (.func 27) #[] #[], born := 0 }] 1 4 (.func (.func 28) #[] #[]) rfl
  refine callsIn_of_wp_marks Try.func11 rfl trivial ?_ rfl
  simp only [Try.ntmps11, List.size_toArray, List.length_cons, List.length_nil, Nat.reduceAdd, Nat.reduceSub, Array.replicate_succ, Array.replicate_zero, List.push_toArray, List.append_toArray, List.nil_append, List.cons_append]
  gi_wp2_with (refine ⟨trivial, ?_⟩; gi_at_call 29; refine (each_in Fence.wide (3 - 1) trivial rfl _ _).mono ?_; rintro e w' ⟨rfl, rfl⟩)
  have bM := Boxed.new (w.alloc (.map caseMap 2)) 49 (.map (some w.heap.size))
  have bO := Boxed.new ((w.alloc (.map caseMap 2)).alloc (.cells #[.map (some w.heap.size)] 49)) 25 (.slice none 0 0)
  have bS := Boxed.new (((w.alloc (.map caseMap 2)).alloc (.cells #[.map (some w.heap.size)] 49)).alloc (.cells #[.slice none 0 0] 25)) 4 (.bool false)
  have bN := Boxed.new ((((w.alloc (.map caseMap 2)).alloc (.cells #[.map (some w.heap.size)] 49)).alloc (.cells #[.slice none 0 0] 25)).alloc (.cells #[.bool false] 4)) 9 (.string a0)
  have hM0 : (((((w.alloc (.map caseMap 2)).alloc (.cells #[.map (some w.heap.size)] 49)).alloc (.cells #[.slice none 0 0] 25)).alloc (.cells #[.bool false] 4)).alloc (.cells #[.string a0] 9)).heap[w.heap.size]? = some (.map caseMap 2) := by
    rw [Below.heap_alloc _ _ _ (by simp; omega), Below.heap_alloc _ _ _ (by simp; omega), Below.heap_alloc _ _ _ (by simp; omega), Below.heap_alloc _ _ _ (by simp)]
    show (w.heap.push _)[w.heap.size]? = _; simp
  simp only [World.size_alloc] at bM bO bS bN
  have bM0 := (((bM.alloc (.cells #[.slice none 0 0] 25)).alloc (.cells #[.bool false] 4)).alloc (.cells #[.string a0] 9))
  have bO0 := ((bO.alloc (.cells #[.bool false] 4)).alloc (.cells #[.string a0] 9))
  have bS0 := (bS.alloc (.cells #[.string a0] 9))
  have hB0 : Below w.heap.size w (((((w.alloc (.map caseMap 2)).alloc (.cells #[.map (some w.heap.size)] 49)).alloc (.cells #[.slice none 0 0] 25)).alloc (.cells #[.bool false] 4)).alloc (.cells #[.string a0] 9)) :=
    (((((Below.refl _ w).alloc (Nat.le_refl _) _).alloc (by simp) _).alloc (by simp; omega) _).alloc (by simp; omega) _).alloc (by simp; omega) _
  have hsz0 : (((((w.alloc (.map caseMap 2)).alloc (.cells #[.map (some w.heap.size)] 49)).alloc (.cells #[.slice none 0 0] 25)).alloc (.cells #[.bool false] 4)).alloc (.cells #[.string a0] 9)).heap.size = w.heap.size + 5 := by simp
  refine wpIn_rangeFunc_ownG (F := Fence.wide) rfl (by decide) (gf := 64) (lb := #[.pointer (some ⟨w.heap.size + 1 + 1 + 1 + 1, 0, none⟩)]) rfl trivial (enters_of Try.func64 (by kernel_rfl) rfl)
    (each_stops (3 - 1) (by decide) (w.heap.size + 1 + 1 + 1 + 1) a0 (by omega) _ (by simp) bN.cell) KeepsCell.trans keepsCell_b (Below.refl _ _) (fun _ => rfl)
    (fun (pre : List (Pc a0)) W => (∃ v, Boxed W (w.heap.size + 2) 25 v ∧ W.ownsRow (w.heap.size + 5) 9 1 v pre.length ((caseRun false (pre.map (·.1))).map Value.string) ∧ True) ∧ Below (w.heap.size + 2) (((((w.alloc (.map caseMap 2)).alloc (.cells #[.map (some w.heap.size)] 49)).alloc (.cells #[.slice none 0 0] 25)).alloc (.cells #[.bool false] 4)).alloc (.cells #[.string a0] 9)) W ∧ Boxed W (w.heap.size + 4) 9 (.string a0) ∧ Boxed W (w.heap.size + 3) 4 (.bool (pre.any fun y => oneB y.1)))
    (fun _ _ _ => False)
    (OwnFrom.and (Own.from (holdsRow_own (w.heap.size + 5) (w.heap.size + 2) 25 9 1 (fun (pre : List (Pc a0)) => pre.length) (fun pre => (caseRun false (pre.map (·.1))).map Value.string) (fun pre v => True)) _) (OwnFrom.and (ownFrom_below (by simp) (by simp)) (OwnFrom.and (Own.from (boxed_own _ _ _) _) (Own.from (boxed_own _ _ _) _))))
    (fun _ _ _ _ _ hs _ _ => hs)
    ⟨⟨_, bO0, World.ownsRow_nil _ _ _ _, trivial⟩, Below.refl _ _, bN, bS0⟩
    (fun (x : Pc a0) => { tmps := #[.string a0, undef, .string ⟨#[]⟩, .pointer (some ⟨w.heap.size + 1, 0, none⟩), .pointer (some ⟨w.heap.size + 1 + 1, 0, none⟩), .pointer (some ⟨w.heap.size + 1 + 1 + 1, 0, none⟩), .int .i64 (x.1.1 : Int), .string x.1.2, undef, .map (some w.heap.size), .map (some w.heap.size), .string a0, .func (.func 64) #[] #[.pointer (some ⟨w.heap.size + 1 + 1 + 1 + 1, 0, none⟩)], .int .i64 (x.1.1 : Int), .string x.1.2, undef, undef, undef, undef, undef, undef, undef, undef, undef, undef, undef, undef, undef, undef, undef, undef, undef, undef, undef, undef, undef, undef, undef, undef, undef, undef, undef, undef, undef, undef, undef], defers := [] }) ?assign ?body ?done ?stop
  case assign =>
    intro l x W K hK
    gi_wp2
    exact hK
  case body =>
    rintro l pre x W ⟨⟨v, hv, hrow, _⟩, hB2, hN, hS⟩ hlt
    have hMW : W.heap[w.heap.size]? = some (.map caseMap 2) := (hB2.block _ (by omega)).trans hM0
    have hMB : Boxed W (w.heap.size + 1) 49 (.map (some w.heap.size)) := (hB2.block _ (by omega)).trans bM0
    have I0 : CInv _ W w.heap.size a0 v (pre.any fun y => oneB y.1) pre.length ((caseRun false (pre.map (·.1))).map Value.string) := ⟨hv, hrow, hB2, hN, hS⟩
    have hWsz : w.heap.size + 5 ≤ W.heap.size := hN.lt
    have hc5 : W.cell? ⟨w.heap.size + 1 + 1 + 1, 0, none⟩ = some (.bool (pre.any fun y => oneB y.1)) := hS.cell
    have hf5 : W.frozen? ⟨w.heap.size + 1 + 1 + 1, 0, none⟩ = false := hS.frozen
    have h1 : 1 ≤ 3 - 1 - 1 := by decide
    clear hv hrow hB2 hN hS hM0 bM0 bO0 bS0 hB0 bM bO bS bN m0 m1 m2
    have hpm : (pre.map (·.1)).any oneB = pre.any fun y => oneB y.1 := by rw [List.any_map]; rfl
    have hMWs : ∀ s' : Bool, (W.setCell ⟨w.heap.size + 3, 0, none⟩ (.bool s')).heap[w.heap.size]? = some (.map caseMap 2) := fun s' => (Below.heap_setCell W ⟨w.heap.size + 3, 0, none⟩ (.bool s') w.heap.size (by simp)).trans hMW
    have hMBs : ∀ s' : Bool, Boxed (W.setCell ⟨w.heap.size + 3, 0, none⟩ (.bool s')) (w.heap.size + 1) 49 (.map (some w.heap.size)) := fun s' => (Below.heap_setCell W ⟨w.heap.size + 3, 0, none⟩ (.bool s') (w.heap.size + 1) (by simp)).trans hMB
    have hxs : x.1.2.size ≤ 140737488355328 := by have := x.2; have := pc_size x; omega
    have CL : ∀ s' : Bool, Calls Try.prog 30 #[.string x.1.2] (W.setCell ⟨w.heap.size + 1 + 1 + 1, 0, none⟩ (.bool s')) fun e w' => e = .returned (.string (lowB x.1.2)) ∧ Below (W.setCell ⟨w.heap.size + 1 + 1 + 1, 0, none⟩ (.bool s')).heap.size (W.setCell ⟨w.heap.size + 1 + 1 + 1, 0, none⟩ (.bool s')) w' := fun s' => ascii_Lower.calls x.1.2 (lowB x.1.2) _ (by unfold ascii_Lower.f; rw [if_pos hxs]; rfl)
    by_cases hat : 0 < x.1.1
    · have ha : decide ((x.1.1 : Int) > 0) = true := decide_eq_true (by omega)
      have ha' : decide (0 < x.1.1) = true := decide_eq_true hat
      cases hp : (pre.any fun y => oneB y.1) with
      | true =>
        rw [hp] at hc5 I0 hpm
        gi_wp2_with (first | (refine ⟨trivial, ?_⟩; gi_at_call 30; refine (CallsIn.inRound l (callsIn_wide.2 (CL true))).mono ?_; rintro e W2 ⟨rfl, hb⟩; have I2 := (I0.flagged true).below (by simp; omega) hb; have hMB2 := boxed_below (hMBs true) hb; have hM2 := (hb.block w.heap.size (by simp; omega)).trans (hMWs true); have KO := (KeepsOthers.setCell W ⟨w.heap.size + 3, 0, none⟩ (.bool true)).trans (keepsOthers_below hb); have KC := KeepsCell.trans (keepsCell_setCell (B := w.heap.size + 4) (C := w.heap.size + 3) W (.bool true) (by omega)) (keepsCell_below hb); have hs2 : w.heap.size + 5 ≤ W2.heap.size := I2.str.lt; have hcm : W2.cell? ⟨w.heap.size + 1, 0, none⟩ = _ := hMB2.cell; have hcf : W2.cell? ⟨w.heap.size + 1 + 1 + 1, 0, none⟩ = _ := I2.flag.cell; have hco : W2.cell? ⟨w.heap.size + 1 + 1, 0, none⟩ = _ := I2.out.cell; obtain ⟨V, hV⟩ : ∃ V, (Instr.lookup 49 (.map (some w.heap.size)) (.int .i64 ((lowB x.1.2).size : Int)) false).run Try.prog W2 = .ok V W2 := ⟨_, map_look W2 _ hM2 _⟩; clear hb) | (gi_at_builtin; refine wpListIn_append_own _ rfl _ _ 25 rfl (w.heap.size + 5) 9 i0 (.string ⟨#[]⟩) 1 16 Try.underlying25 hi hz0 hz1 hz2 rfl (by decide) _ _ _ rfl (I2.row.alloc _) ⟨W2.heap.size, 0, none⟩ 1 1 [.string (lowB x.1.2)] rfl rfl (cell_one_new _ _ _) (by simp [Value.oneCell']) (by unfold maxLen; omega) (by omega) (by simp; omega) ?_; intro v' w1 hown' hgrow _; obtain ⟨g', cap', rfl⟩ := ownsRow_succ hown'; obtain ⟨hv1, hv2, hr2, hk2, hb2, hk1⟩ := boxed_appended (n₀ := w.heap.size + 2) I2.out (by omega) I2.row (by omega) (Nat.le_refl _) hown' hgrow; have hc1 : w1.cell? ⟨w.heap.size + 1 + 1, 0, none⟩ = _ := hv1.cell; have hf1 : w1.frozen? ⟨w.heap.size + 1 + 1, 0, none⟩ = _ := hv1.frozen))
        have hkc : KeepsCell (w.heap.size + 4) W2 _ := fun v0 h0 => by
          have := hk1 (w.heap.size + 4) (by omega) (by omega)
          unfold World.cell? at h0 ⊢
          rw [this]; exact h0
        refine ⟨(KO.trans hk2).from _, KeepsCell.trans KC hkc, ⟨_, hv2, ?_, trivial⟩, I2.bel.trans hb2, (hk1 (w.heap.size + 4) (by omega) (by omega)).trans I2.str, ?_⟩
        · have e0 : (pre ++ [x]).map (·.1) = pre.map (·.1) ++ [x.1] := by simp
          have e : caseOne (false || (pre.map (·.1)).any oneB || oneB x.1) x.1 = (lowB x.1.2) := by rw [hpm]; simp [caseOne]
          rw [e0, caseRun_snoc, e, List.map_append, List.length_append]
          exact hr2
        · rw [List.any_append]
          have e : (pre.any (fun y => oneB y.1) || [x].any (fun y => oneB y.1)) = true := by rw [hp]; rfl
          rw [e]
          exact (hk1 (w.heap.size + 3) (by omega) (by omega)).trans I2.flag
      | false =>
        rw [hp] at hc5 I0 hpm
        by_cases h1s : x.1.2.size = 1
        · have c1 : ((x.1.2.size : Int) == 1) = true := by simp [h1s]
          have hone : oneB x.1 = true := decide_eq_true h1s
          gi_wp2_with (first | (refine ⟨trivial, ?_⟩; gi_at_call 30; refine (CallsIn.inRound l (callsIn_wide.2 (CL true))).mono ?_; rintro e W2 ⟨rfl, hb⟩; have I2 := (I0.flagged true).below (by simp; omega) hb; have hMB2 := boxed_below (hMBs true) hb; have hM2 := (hb.block w.heap.size (by simp; omega)).trans (hMWs true); have KO := (KeepsOthers.setCell W ⟨w.heap.size + 3, 0, none⟩ (.bool true)).trans (keepsOthers_below hb); have KC := KeepsCell.trans (keepsCell_setCell (B := w.heap.size + 4) (C := w.heap.size + 3) W (.bool true) (by omega)) (keepsCell_below hb); have hs2 : w.heap.size + 5 ≤ W2.heap.size := I2.str.lt; have hcm : W2.cell? ⟨w.heap.size + 1, 0, none⟩ = _ := hMB2.cell; have hcf : W2.cell? ⟨w.heap.size + 1 + 1 + 1, 0, none⟩ = _ := I2.flag.cell; have hco : W2.cell? ⟨w.heap.size + 1 + 1, 0, none⟩ = _ := I2.out.cell; obtain ⟨V, hV⟩ : ∃ V, (Instr.lookup 49 (.map (some w.heap.size)) (.int .i64 ((lowB x.1.2).size : Int)) false).run Try.prog W2 = .ok V W2 := ⟨_, map_look W2 _ hM2 _⟩; clear hb) | (gi_at_builtin; refine wpListIn_append_own _ rfl _ _ 25 rfl (w.heap.size + 5) 9 i0 (.string ⟨#[]⟩) 1 16 Try.underlying25 hi hz0 hz1 hz2 rfl (by decide) _ _ _ rfl (I2.row.alloc _) ⟨W2.heap.size, 0, none⟩ 1 1 [.string (lowB x.1.2)] rfl rfl (cell_one_new _ _ _) (by simp [Value.oneCell']) (by unfold maxLen; omega) (by omega) (by simp; omega) ?_; intro v' w1 hown' hgrow _; obtain ⟨g', cap', rfl⟩ := ownsRow_succ hown'; obtain ⟨hv1, hv2, hr2, hk2, hb2, hk1⟩ := boxed_appended (n₀ := w.heap.size + 2) I2.out (by omega) I2.row (by omega) (Nat.le_refl _) hown' hgrow; have hc1 : w1.cell? ⟨w.heap.size + 1 + 1, 0, none⟩ = _ := hv1.cell; have hf1 : w1.frozen? ⟨w.heap.size + 1 + 1, 0, none⟩ = _ := hv1.frozen))
          have hkc : KeepsCell (w.heap.size + 4) W2 _ := fun v0 h0 => by
            have := hk1 (w.heap.size + 4) (by omega) (by omega)
            unfold World.cell? at h0 ⊢
            rw [this]; exact h0
          refine ⟨(KO.trans hk2).from _, KeepsCell.trans KC hkc, ⟨_, hv2, ?_, trivial⟩, I2.bel.trans hb2, (hk1 (w.heap.size + 4) (by omega) (by omega)).trans I2.str, ?_⟩
          · have e0 : (pre ++ [x]).map (·.1) = pre.map (·.1) ++ [x.1] := by simp
            have e : caseOne (false || (pre.map (·.1)).any oneB || oneB x.1) x.1 = (lowB x.1.2) := by rw [hpm, hone]; simp [caseOne]
            rw [e0, caseRun_snoc, e, List.map_append, List.length_append]
            exact hr2
          · rw [List.any_append]
            have e : (pre.any (fun y => oneB y.1) || [x].any (fun y => oneB y.1)) = true := by rw [hp, List.any_cons, hone]; rfl
            rw [e]
            exact (hk1 (w.heap.size + 3) (by omega) (by omega)).trans I2.flag
        · have c1 : ((x.1.2.size : Int) == 1) = false := by simp; omega
          have hone : oneB x.1 = false := decide_eq_false h1s
          by_cases l2 : (lowB x.1.2).size = 2
          · skip
            gi_wp2_with (first | (refine ⟨trivial, ?_⟩; gi_at_call 30; refine (CallsIn.inRound l (callsIn_wide.2 (CL false))).mono ?_; rintro e W2 ⟨rfl, hb⟩; have I2 := (I0.flagged false).below (by simp; omega) hb; have hMB2 := boxed_below (hMBs false) hb; have hM2 := (hb.block w.heap.size (by simp; omega)).trans (hMWs false); have KO := (KeepsOthers.setCell W ⟨w.heap.size + 3, 0, none⟩ (.bool false)).trans (keepsOthers_below hb); have KC := KeepsCell.trans (keepsCell_setCell (B := w.heap.size + 4) (C := w.heap.size + 3) W (.bool false) (by omega)) (keepsCell_below hb); have hs2 : w.heap.size + 5 ≤ W2.heap.size := I2.str.lt; have hcm : W2.cell? ⟨w.heap.size + 1, 0, none⟩ = _ := hMB2.cell; have hcf : W2.cell? ⟨w.heap.size + 1 + 1 + 1, 0, none⟩ = _ := I2.flag.cell; have hco : W2.cell? ⟨w.heap.size + 1 + 1, 0, none⟩ = _ := I2.out.cell; have hV := map_look W2 _ hM2 2; rw [if_pos rfl] at hV; have hne := ne1 27 W2; clear hb) | (refine ⟨trivial, ?_⟩; gi_at_call 27; refine (CallsIn.inRound l (callsIn_wide.2 (ascii_Upper.calls (lowB x.1.2) (upB (lowB x.1.2)) W2 (by unfold ascii_Upper.f; rw [if_pos (by rw [lowB_size]; exact hxs)]; rfl)))).mono ?_; rintro e W3 ⟨rfl, hb3⟩; have I3 := I2.below (by omega) hb3; have KO := KO.trans (keepsOthers_below hb3); have KC := KeepsCell.trans KC (keepsCell_below hb3); have hs3 : w.heap.size + 5 ≤ W3.heap.size := I3.str.lt; have hco : W3.cell? ⟨w.heap.size + 1 + 1, 0, none⟩ = _ := I3.out.cell; clear hb3) | (gi_at_builtin; refine wpListIn_append_own _ rfl _ _ 25 rfl (w.heap.size + 5) 9 i0 (.string ⟨#[]⟩) 1 16 Try.underlying25 hi hz0 hz1 hz2 rfl (by decide) _ _ _ rfl (I3.row.alloc _) ⟨W3.heap.size, 0, none⟩ 1 1 [.string (upB (lowB x.1.2))] rfl rfl (cell_one_new _ _ _) (by simp [Value.oneCell']) (by unfold maxLen; omega) (by omega) (by simp; omega) ?_; intro v' w1 hown' hgrow _; obtain ⟨g', cap', rfl⟩ := ownsRow_succ hown'; obtain ⟨hv1, hv2, hr2, hk2, hb2, hk1⟩ := boxed_appended (n₀ := w.heap.size + 2) I3.out (by omega) I3.row (by omega) (Nat.le_refl _) hown' hgrow; have hc1 : w1.cell? ⟨w.heap.size + 1 + 1, 0, none⟩ = _ := hv1.cell; have hf1 : w1.frozen? ⟨w.heap.size + 1 + 1, 0, none⟩ = _ := hv1.frozen))
            have hkc : KeepsCell (w.heap.size + 4) W3 _ := fun v0 h0 => by
              have := hk1 (w.heap.size + 4) (by omega) (by omega)
              unfold World.cell? at h0 ⊢
              rw [this]; exact h0
            refine ⟨(KO.trans hk2).from _, KeepsCell.trans KC hkc, ⟨_, hv2, ?_, trivial⟩, I3.bel.trans hb2, (hk1 (w.heap.size + 4) (by omega) (by omega)).trans I3.str, ?_⟩
            · have e0 : (pre ++ [x]).map (·.1) = pre.map (·.1) ++ [x.1] := by simp
              have e : caseOne (false || (pre.map (·.1)).any oneB || oneB x.1) x.1 = (upB (lowB x.1.2)) := by rw [hpm, hone]; simp [caseOne, hat, l2]
              rw [e0, caseRun_snoc, e, List.map_append, List.length_append]
              exact hr2
            · rw [List.any_append]
              have e : (pre.any (fun y => oneB y.1) || [x].any (fun y => oneB y.1)) = false := by rw [hp, List.any_cons, hone]; rfl
              rw [e]
              exact (hk1 (w.heap.size + 3) (by omega) (by omega)).trans I3.flag
          · by_cases l4 : (lowB x.1.2).size = 4
            · skip
              gi_wp2_with (first | (refine ⟨trivial, ?_⟩; gi_at_call 30; refine (CallsIn.inRound l (callsIn_wide.2 (CL false))).mono ?_; rintro e W2 ⟨rfl, hb⟩; have I2 := (I0.flagged false).below (by simp; omega) hb; have hMB2 := boxed_below (hMBs false) hb; have hM2 := (hb.block w.heap.size (by simp; omega)).trans (hMWs false); have KO := (KeepsOthers.setCell W ⟨w.heap.size + 3, 0, none⟩ (.bool false)).trans (keepsOthers_below hb); have KC := KeepsCell.trans (keepsCell_setCell (B := w.heap.size + 4) (C := w.heap.size + 3) W (.bool false) (by omega)) (keepsCell_below hb); have hs2 : w.heap.size + 5 ≤ W2.heap.size := I2.str.lt; have hcm : W2.cell? ⟨w.heap.size + 1, 0, none⟩ = _ := hMB2.cell; have hcf : W2.cell? ⟨w.heap.size + 1 + 1 + 1, 0, none⟩ = _ := I2.flag.cell; have hco : W2.cell? ⟨w.heap.size + 1 + 1, 0, none⟩ = _ := I2.out.cell; have hV := map_look W2 _ hM2 4; rw [if_neg (by omega), if_pos rfl] at hV; have hne := ne1 28 W2; clear hb) | (refine ⟨trivial, ?_⟩; gi_at_call 28; refine (CallsIn.inRound l (callsIn_wide.2 (ascii_Title.calls (lowB x.1.2) (tiB (lowB x.1.2)) W2 (by unfold ascii_Title.f; rw [if_pos (by rw [lowB_size]; exact hxs)]; rfl)))).mono ?_; rintro e W3 ⟨rfl, hb3⟩; have I3 := I2.below (by omega) hb3; have KO := KO.trans (keepsOthers_below hb3); have KC := KeepsCell.trans KC (keepsCell_below hb3); have hs3 : w.heap.size + 5 ≤ W3.heap.size := I3.str.lt; have hco : W3.cell? ⟨w.heap.size + 1 + 1, 0, none⟩ = _ := I3.out.cell; clear hb3) | (gi_at_builtin; refine wpListIn_append_own _ rfl _ _ 25 rfl (w.heap.size + 5) 9 i0 (.string ⟨#[]⟩) 1 16 Try.underlying25 hi hz0 hz1 hz2 rfl (by decide) _ _ _ rfl (I3.row.alloc _) ⟨W3.heap.size, 0, none⟩ 1 1 [.string (tiB (lowB x.1.2))] rfl rfl (cell_one_new _ _ _) (by simp [Value.oneCell']) (by unfold maxLen; omega) (by omega) (by simp; omega) ?_; intro v' w1 hown' hgrow _; obtain ⟨g', cap', rfl⟩ := ownsRow_succ hown'; obtain ⟨hv1, hv2, hr2, hk2, hb2, hk1⟩ := boxed_appended (n₀ := w.heap.size + 2) I3.out (by omega) I3.row (by omega) (Nat.le_refl _) hown' hgrow; have hc1 : w1.cell? ⟨w.heap.size + 1 + 1, 0, none⟩ = _ := hv1.cell; have hf1 : w1.frozen? ⟨w.heap.size + 1 + 1, 0, none⟩ = _ := hv1.frozen))
              have hkc : KeepsCell (w.heap.size + 4) W3 _ := fun v0 h0 => by
                have := hk1 (w.heap.size + 4) (by omega) (by omega)
                unfold World.cell? at h0 ⊢
                rw [this]; exact h0
              refine ⟨(KO.trans hk2).from _, KeepsCell.trans KC hkc, ⟨_, hv2, ?_, trivial⟩, I3.bel.trans hb2, (hk1 (w.heap.size + 4) (by omega) (by omega)).trans I3.str, ?_⟩
              · have e0 : (pre ++ [x]).map (·.1) = pre.map (·.1) ++ [x.1] := by simp
                have e : caseOne (false || (pre.map (·.1)).any oneB || oneB x.1) x.1 = (tiB (lowB x.1.2)) := by rw [hpm, hone]; simp [caseOne, hat, l2, l4]
                rw [e0, caseRun_snoc, e, List.map_append, List.length_append]
                exact hr2
              · rw [List.any_append]
                have e : (pre.any (fun y => oneB y.1) || [x].any (fun y => oneB y.1)) = false := by rw [hp, List.any_cons, hone]; rfl
                rw [e]
                exact (hk1 (w.heap.size + 3) (by omega) (by omega)).trans I3.flag
            · skip
              gi_wp2_with (first | (refine ⟨trivial, ?_⟩; gi_at_call 30; refine (CallsIn.inRound l (callsIn_wide.2 (CL false))).mono ?_; rintro e W2 ⟨rfl, hb⟩; have I2 := (I0.flagged false).below (by simp; omega) hb; have hMB2 := boxed_below (hMBs false) hb; have hM2 := (hb.block w.heap.size (by simp; omega)).trans (hMWs false); have KO := (KeepsOthers.setCell W ⟨w.heap.size + 3, 0, none⟩ (.bool false)).trans (keepsOthers_below hb); have KC := KeepsCell.trans (keepsCell_setCell (B := w.heap.size + 4) (C := w.heap.size + 3) W (.bool false) (by omega)) (keepsCell_below hb); have hs2 : w.heap.size + 5 ≤ W2.heap.size := I2.str.lt; have hcm : W2.cell? ⟨w.heap.size + 1, 0, none⟩ = _ := hMB2.cell; have hcf : W2.cell? ⟨w.heap.size + 1 + 1 + 1, 0, none⟩ = _ := I2.flag.cell; have hco : W2.cell? ⟨w.heap.size + 1 + 1, 0, none⟩ = _ := I2.out.cell; have hV := map_look W2 _ hM2 ((lowB x.1.2).size : Int); rw [if_neg (by omega), if_neg (by omega)] at hV; have hne := ne0 W2; clear hb) | (gi_at_builtin; refine wpListIn_append_own _ rfl _ _ 25 rfl (w.heap.size + 5) 9 i0 (.string ⟨#[]⟩) 1 16 Try.underlying25 hi hz0 hz1 hz2 rfl (by decide) _ _ _ rfl (I2.row.alloc _) ⟨W2.heap.size, 0, none⟩ 1 1 [.string (lowB x.1.2)] rfl rfl (cell_one_new _ _ _) (by simp [Value.oneCell']) (by unfold maxLen; omega) (by omega) (by simp; omega) ?_; intro v' w1 hown' hgrow _; obtain ⟨g', cap', rfl⟩ := ownsRow_succ hown'; obtain ⟨hv1, hv2, hr2, hk2, hb2, hk1⟩ := boxed_appended (n₀ := w.heap.size + 2) I2.out (by omega) I2.row (by omega) (Nat.le_refl _) hown' hgrow; have hc1 : w1.cell? ⟨w.heap.size + 1 + 1, 0, none⟩ = _ := hv1.cell; have hf1 : w1.frozen? ⟨w.heap.size + 1 + 1, 0, none⟩ = _ := hv1.frozen))
              have hkc : KeepsCell (w.heap.size + 4) W2 _ := fun v0 h0 => by
                have := hk1 (w.heap.size + 4) (by omega) (by omega)
                unfold World.cell? at h0 ⊢
                rw [this]; exact h0
              refine ⟨(KO.trans hk2).from _, KeepsCell.trans KC hkc, ⟨_, hv2, ?_, trivial⟩, I2.bel.trans hb2, (hk1 (w.heap.size + 4) (by omega) (by omega)).trans I2.str, ?_⟩
              · have e0 : (pre ++ [x]).map (·.1) = pre.map (·.1) ++ [x.1] := by simp
                have e : caseOne (false || (pre.map (·.1)).any oneB || oneB x.1) x.1 = (lowB x.1.2) := by rw [hpm, hone]; simp [caseOne, hat, l2, l4]
                rw [e0, caseRun_snoc, e, List.map_append, List.length_append]
                exact hr2
              · rw [List.any_append]
                have e : (pre.any (fun y => oneB y.1) || [x].any (fun y => oneB y.1)) = false := by rw [hp, List.any_cons, hone]; rfl
                rw [e]
                exact (hk1 (w.heap.size + 3) (by omega) (by omega)).trans I2.flag
    · have ha : decide ((x.1.1 : Int) > 0) = false := decide_eq_false (by omega)
      have ha' : decide (0 < x.1.1) = false := decide_eq_false hat
      cases hp : (pre.any fun y => oneB y.1) with
      | true =>
        rw [hp] at hc5 I0 hpm
        gi_wp2_with (first | (refine ⟨trivial, ?_⟩; gi_at_call 30; refine (CallsIn.inRound l (callsIn_wide.2 (CL true))).mono ?_; rintro e W2 ⟨rfl, hb⟩; have I2 := (I0.flagged true).below (by simp; omega) hb; have hMB2 := boxed_below (hMBs true) hb; have hM2 := (hb.block w.heap.size (by simp; omega)).trans (hMWs true); have KO := (KeepsOthers.setCell W ⟨w.heap.size + 3, 0, none⟩ (.bool true)).trans (keepsOthers_below hb); have KC := KeepsCell.trans (keepsCell_setCell (B := w.heap.size + 4) (C := w.heap.size + 3) W (.bool true) (by omega)) (keepsCell_below hb); have hs2 : w.heap.size + 5 ≤ W2.heap.size := I2.str.lt; have hcm : W2.cell? ⟨w.heap.size + 1, 0, none⟩ = _ := hMB2.cell; have hcf : W2.cell? ⟨w.heap.size + 1 + 1 + 1, 0, none⟩ = _ := I2.flag.cell; have hco : W2.cell? ⟨w.heap.size + 1 + 1, 0, none⟩ = _ := I2.out.cell; obtain ⟨V, hV⟩ : ∃ V, (Instr.lookup 49 (.map (some w.heap.size)) (.int .i64 ((lowB x.1.2).size : Int)) false).run Try.prog W2 = .ok V W2 := ⟨_, map_look W2 _ hM2 _⟩; clear hb) | (gi_at_builtin; refine wpListIn_append_own _ rfl _ _ 25 rfl (w.heap.size + 5) 9 i0 (.string ⟨#[]⟩) 1 16 Try.underlying25 hi hz0 hz1 hz2 rfl (by decide) _ _ _ rfl (I2.row.alloc _) ⟨W2.heap.size, 0, none⟩ 1 1 [.string (lowB x.1.2)] rfl rfl (cell_one_new _ _ _) (by simp [Value.oneCell']) (by unfold maxLen; omega) (by omega) (by simp; omega) ?_; intro v' w1 hown' hgrow _; obtain ⟨g', cap', rfl⟩ := ownsRow_succ hown'; obtain ⟨hv1, hv2, hr2, hk2, hb2, hk1⟩ := boxed_appended (n₀ := w.heap.size + 2) I2.out (by omega) I2.row (by omega) (Nat.le_refl _) hown' hgrow; have hc1 : w1.cell? ⟨w.heap.size + 1 + 1, 0, none⟩ = _ := hv1.cell; have hf1 : w1.frozen? ⟨w.heap.size + 1 + 1, 0, none⟩ = _ := hv1.frozen))
        have hkc : KeepsCell (w.heap.size + 4) W2 _ := fun v0 h0 => by
          have := hk1 (w.heap.size + 4) (by omega) (by omega)
          unfold World.cell? at h0 ⊢
          rw [this]; exact h0
        refine ⟨(KO.trans hk2).from _, KeepsCell.trans KC hkc, ⟨_, hv2, ?_, trivial⟩, I2.bel.trans hb2, (hk1 (w.heap.size + 4) (by omega) (by omega)).trans I2.str, ?_⟩
        · have e0 : (pre ++ [x]).map (·.1) = pre.map (·.1) ++ [x.1] := by simp
          have e : caseOne (false || (pre.map (·.1)).any oneB || oneB x.1) x.1 = (lowB x.1.2) := by simp [caseOne, hat]
          rw [e0, caseRun_snoc, e, List.map_append, List.length_append]
          exact hr2
        · rw [List.any_append]
          have e : (pre.any (fun y => oneB y.1) || [x].any (fun y => oneB y.1)) = true := by rw [hp]; rfl
          rw [e]
          exact (hk1 (w.heap.size + 3) (by omega) (by omega)).trans I2.flag
      | false =>
        rw [hp] at hc5 I0 hpm
        by_cases h1s : x.1.2.size = 1
        · have c1 : ((x.1.2.size : Int) == 1) = true := by simp [h1s]
          have hone : oneB x.1 = true := decide_eq_true h1s
          gi_wp2_with (first | (refine ⟨trivial, ?_⟩; gi_at_call 30; refine (CallsIn.inRound l (callsIn_wide.2 (CL true))).mono ?_; rintro e W2 ⟨rfl, hb⟩; have I2 := (I0.flagged true).below (by simp; omega) hb; have hMB2 := boxed_below (hMBs true) hb; have hM2 := (hb.block w.heap.size (by simp; omega)).trans (hMWs true); have KO := (KeepsOthers.setCell W ⟨w.heap.size + 3, 0, none⟩ (.bool true)).trans (keepsOthers_below hb); have KC := KeepsCell.trans (keepsCell_setCell (B := w.heap.size + 4) (C := w.heap.size + 3) W (.bool true) (by omega)) (keepsCell_below hb); have hs2 : w.heap.size + 5 ≤ W2.heap.size := I2.str.lt; have hcm : W2.cell? ⟨w.heap.size + 1, 0, none⟩ = _ := hMB2.cell; have hcf : W2.cell? ⟨w.heap.size + 1 + 1 + 1, 0, none⟩ = _ := I2.flag.cell; have hco : W2.cell? ⟨w.heap.size + 1 + 1, 0, none⟩ = _ := I2.out.cell; obtain ⟨V, hV⟩ : ∃ V, (Instr.lookup 49 (.map (some w.heap.size)) (.int .i64 ((lowB x.1.2).size : Int)) false).run Try.prog W2 = .ok V W2 := ⟨_, map_look W2 _ hM2 _⟩; clear hb) | (gi_at_builtin; refine wpListIn_append_own _ rfl _ _ 25 rfl (w.heap.size + 5) 9 i0 (.string ⟨#[]⟩) 1 16 Try.underlying25 hi hz0 hz1 hz2 rfl (by decide) _ _ _ rfl (I2.row.alloc _) ⟨W2.heap.size, 0, none⟩ 1 1 [.string (lowB x.1.2)] rfl rfl (cell_one_new _ _ _) (by simp [Value.oneCell']) (by unfold maxLen; omega) (by omega) (by simp; omega) ?_; intro v' w1 hown' hgrow _; obtain ⟨g', cap', rfl⟩ := ownsRow_succ hown'; obtain ⟨hv1, hv2, hr2, hk2, hb2, hk1⟩ := boxed_appended (n₀ := w.heap.size + 2) I2.out (by omega) I2.row (by omega) (Nat.le_refl _) hown' hgrow; have hc1 : w1.cell? ⟨w.heap.size + 1 + 1, 0, none⟩ = _ := hv1.cell; have hf1 : w1.frozen? ⟨w.heap.size + 1 + 1, 0, none⟩ = _ := hv1.frozen))
          have hkc : KeepsCell (w.heap.size + 4) W2 _ := fun v0 h0 => by
            have := hk1 (w.heap.size + 4) (by omega) (by omega)
            unfold World.cell? at h0 ⊢
            rw [this]; exact h0
          refine ⟨(KO.trans hk2).from _, KeepsCell.trans KC hkc, ⟨_, hv2, ?_, trivial⟩, I2.bel.trans hb2, (hk1 (w.heap.size + 4) (by omega) (by omega)).trans I2.str, ?_⟩
          · have e0 : (pre ++ [x]).map (·.1) = pre.map (·.1) ++ [x.1] := by simp
            have e : caseOne (false || (pre.map (·.1)).any oneB || oneB x.1) x.1 = (lowB x.1.2) := by simp [caseOne, hat]
            rw [e0, caseRun_snoc, e, List.map_append, List.length_append]
            exact hr2
          · rw [List.any_append]
            have e : (pre.any (fun y => oneB y.1) || [x].any (fun y => oneB y.1)) = true := by rw [hp, List.any_cons, hone]; rfl
            rw [e]
            exact (hk1 (w.heap.size + 3) (by omega) (by omega)).trans I2.flag
        · have c1 : ((x.1.2.size : Int) == 1) = false := by simp; omega
          have hone : oneB x.1 = false := decide_eq_false h1s
          gi_wp2_with (first | (refine ⟨trivial, ?_⟩; gi_at_call 30; refine (CallsIn.inRound l (callsIn_wide.2 (CL false))).mono ?_; rintro e W2 ⟨rfl, hb⟩; have I2 := (I0.flagged false).below (by simp; omega) hb; have hMB2 := boxed_below (hMBs false) hb; have hM2 := (hb.block w.heap.size (by simp; omega)).trans (hMWs false); have KO := (KeepsOthers.setCell W ⟨w.heap.size + 3, 0, none⟩ (.bool false)).trans (keepsOthers_below hb); have KC := KeepsCell.trans (keepsCell_setCell (B := w.heap.size + 4) (C := w.heap.size + 3) W (.bool false) (by omega)) (keepsCell_below hb); have hs2 : w.heap.size + 5 ≤ W2.heap.size := I2.str.lt; have hcm : W2.cell? ⟨w.heap.size + 1, 0, none⟩ = _ := hMB2.cell; have hcf : W2.cell? ⟨w.heap.size + 1 + 1 + 1, 0, none⟩ = _ := I2.flag.cell; have hco : W2.cell? ⟨w.heap.size + 1 + 1, 0, none⟩ = _ := I2.out.cell; obtain ⟨V, hV⟩ : ∃ V, (Instr.lookup 49 (.map (some w.heap.size)) (.int .i64 ((lowB x.1.2).size : Int)) false).run Try.prog W2 = .ok V W2 := ⟨_, map_look W2 _ hM2 _⟩; clear hb) | (gi_at_builtin; refine wpListIn_append_own _ rfl _ _ 25 rfl (w.heap.size + 5) 9 i0 (.string ⟨#[]⟩) 1 16 Try.underlying25 hi hz0 hz1 hz2 rfl (by decide) _ _ _ rfl (I2.row.alloc _) ⟨W2.heap.size, 0, none⟩ 1 1 [.string (lowB x.1.2)] rfl rfl (cell_one_new _ _ _) (by simp [Value.oneCell']) (by unfold maxLen; omega) (by omega) (by simp; omega) ?_; intro v' w1 hown' hgrow _; obtain ⟨g', cap', rfl⟩ := ownsRow_succ hown'; obtain ⟨hv1, hv2, hr2, hk2, hb2, hk1⟩ := boxed_appended (n₀ := w.heap.size + 2) I2.out (by omega) I2.row (by omega) (Nat.le_refl _) hown' hgrow; have hc1 : w1.cell? ⟨w.heap.size + 1 + 1, 0, none⟩ = _ := hv1.cell; have hf1 : w1.frozen? ⟨w.heap.size + 1 + 1, 0, none⟩ = _ := hv1.frozen))
          have hkc : KeepsCell (w.heap.size + 4) W2 _ := fun v0 h0 => by
            have := hk1 (w.heap.size + 4) (by omega) (by omega)
            unfold World.cell? at h0 ⊢
            rw [this]; exact h0
          refine ⟨(KO.trans hk2).from _, KeepsCell.trans KC hkc, ⟨_, hv2, ?_, trivial⟩, I2.bel.trans hb2, (hk1 (w.heap.size + 4) (by omega) (by omega)).trans I2.str, ?_⟩
          · have e0 : (pre ++ [x]).map (·.1) = pre.map (·.1) ++ [x.1] := by simp
            have e : caseOne (false || (pre.map (·.1)).any oneB || oneB x.1) x.1 = (lowB x.1.2) := by simp [caseOne, hat]
            rw [e0, caseRun_snoc, e, List.map_append, List.length_append]
            exact hr2
          · rw [List.any_append]
            have e : (pre.any (fun y => oneB y.1) || [x].any (fun y => oneB y.1)) = false := by rw [hp, List.any_cons, hone]; rfl
            rw [e]
            exact (hk1 (w.heap.size + 3) (by omega) (by omega)).trans I2.flag
  case done =>
    rintro D ys W hD hys ⟨⟨v, hv, hrow, _⟩, hB2, hN, hS⟩ hK
    have HY := Lib.hid hys
    clear hys
    have hWz : w.heap.size + 5 ≤ W.heap.size := hN.lt
    have hBB : Below w.heap.size w W := hB0.trans (below_base hB2 (by omega))
    have KR : Kd.R Kd.string 9 W w.heap.size (fun _ => True) v (caseRun false (eachB a0)) := by
      refine Kd.R_of_own (enc := Value.string) ?_ (fun _ _ => trivial)
      rw [← HY.out, caseRun_length, List.length_map]
      exact own_weaken hrow (by omega)
    obtain ⟨A, c, rfl⟩ := Kd.R_slice KR
    have hc : W.cell? ⟨w.heap.size + 1 + 1, 0, none⟩ = _ := hv.cell
    have CJ := split_Join.calls A c (caseRun false (eachB a0)) r W (Kd.R_reads' KR).2.2 (Kd.R_reads' KR).2.1 HJ.out
    clear hv hrow hB2 hN hS hM0 bM0 bO0 bS0 bM bO bS bN m0 m1 m2 hB0 KR
    gi_wp2_with (refine ⟨trivial, ?_⟩; gi_at_call 31; refine (callsIn_wide.2 CJ).mono ?_; rintro e W' ⟨rfl, hb⟩; have hK' := (hb.block D (Array.getElem?_eq_some_iff.1 hK).1).trans hK)
    refine ⟨by simp, .inl ⟨_, _, rfl, run_takeDeferred hK', ?_⟩⟩
    refine ⟨_, results_tmp rfl _ _ _, rfl, (below_then hBB (by omega) hb).trans (belowK_b (w := w) (Nat.le_refl _) W' D _ _ (by simp at hD; omega) hK' rfl rfl)⟩
  case stop =>
    rintro D c pre W _ _ h _
    exact h.elim
end
def isoglosslaw08_awake.f  : Option (Bool) := (render_Case.f (⟨#[83, 71, 78, 45, 98, 101, 45, 70, 82]⟩ : ByteArray)).bind fun ae => (if ae.toList = ([115, 103, 110, 45, 66, 69, 45, 70, 82] : List UInt8) then ((render_Case.f (⟨#[101, 110, 45, 99, 97, 45, 88, 45, 67, 65, 45, 108, 97, 116, 110]⟩ : ByteArray)).bind fun ac => (if ac.toList = ([101, 110, 45, 67, 65, 45, 120, 45, 99, 97, 45, 108, 97, 116, 110] : List UInt8) then ((render_Case.f (⟨#[65, 90, 45, 76, 65, 84, 78, 45, 97, 122]⟩ : ByteArray)).bind fun ag => (some (ag.toList == ([97, 122, 45, 76, 97, 116, 110, 45, 65, 90] : List UInt8)))) else (some false))) else (some false))
set_option maxHeartbeats 8000000 in
set_option maxRecDepth 100000 in
theorem isoglosslaw08_awake.calls  (r : Bool) (w : World) (h : isoglosslaw08_awake.f  = some r) :
  Calls Try.prog 9 #[] w fun e w' => e = .returned (.bool r) ∧ Below w.heap.size w w' := by
 have HB := Aside0.mk (Below.refl w.heap.size w)
 have H : ((render_Case.f (⟨#[83, 71, 78, 45, 98, 101, 45, 70, 82]⟩ : ByteArray)).bind fun ae => (if ae.toList = ([115, 103, 110, 45, 66, 69, 45, 70, 82] : List UInt8) then ((render_Case.f (⟨#[101, 110, 45, 99, 97, 45, 88, 45, 67, 65, 45, 108, 97, 116, 110]⟩ : ByteArray)).bind fun ac => (if ac.toList = ([101, 110, 45, 67, 65, 45, 120, 45, 99, 97, 45, 108, 97, 116, 110] : List UInt8) then ((render_Case.f (⟨#[65, 90, 45, 76, 65, 84, 78, 45, 97, 122]⟩ : ByteArray)).bind fun ag => (some (ag.toList == ([97, 122, 45, 76, 97, 116, 110, 45, 65, 90] : List UInt8)))) else (some false))) else (some false))) = some r := h
 clear h
 replace H := Option.bind_eq_some_iff.mp H
 obtain ⟨ae, aH, H⟩ := H
 replace H : (if ae.toList = ([115, 103, 110, 45, 66, 69, 45, 70, 82] : List UInt8) then ((render_Case.f (⟨#[101, 110, 45, 99, 97, 45, 88, 45, 67, 65, 45, 108, 97, 116, 110]⟩ : ByteArray)).bind fun ac => (if ac.toList = ([101, 110, 45, 67, 65, 45, 120, 45, 99, 97, 45, 108, 97, 116, 110] : List UInt8) then ((render_Case.f (⟨#[65, 90, 45, 76, 65, 84, 78, 45, 97, 122]⟩ : ByteArray)).bind fun ag => (some (ag.toList == ([97, 122, 45, 76, 97, 116, 110, 45, 65, 90] : List UInt8)))) else (some false))) else (some false)) = some r := H
 have A1 := Aside0.mk aH
 clear aH
 by_cases c2 : ae.toList = ([115, 103, 110, 45, 66, 69, 45, 70, 82] : List UInt8)
 ·rw [if_pos c2] at H
  have ah : (ae.toList == ([115, 103, 110, 45, 66, 69, 45, 70, 82] : List UInt8)) = true := beq_iff_eq.mpr c2
  have aA : (ae.toList != ([115, 103, 110, 45, 66, 69, 45, 70, 82] : List UInt8)) = false := bne_eq_false_iff_eq.mpr c2
  clear c2
  replace H := Option.bind_eq_some_iff.mp H
  obtain ⟨ac, aI, H⟩ := H
  replace H : (if ac.toList = ([101, 110, 45, 67, 65, 45, 120, 45, 99, 97, 45, 108, 97, 116, 110] : List UInt8) then ((render_Case.f (⟨#[65, 90, 45, 76, 65, 84, 78, 45, 97, 122]⟩ : ByteArray)).bind fun ag => (some (ag.toList == ([97, 122, 45, 76, 97, 116, 110, 45, 65, 90] : List UInt8)))) else (some false)) = some r := H
  have A3 := Aside0.mk aI
  clear aI
  by_cases c4 : ac.toList = ([101, 110, 45, 67, 65, 45, 120, 45, 99, 97, 45, 108, 97, 116, 110] : List UInt8)
  ·rw [if_pos c4] at H
   have aC : (ac.toList == ([101, 110, 45, 67, 65, 45, 120, 45, 99, 97, 45, 108, 97, 116, 110] : List UInt8)) = true := beq_iff_eq.mpr c4
   have aD : (ac.toList != ([101, 110, 45, 67, 65, 45, 120, 45, 99, 97, 45, 108, 97, 116, 110] : List UInt8)) = false := bne_eq_false_iff_eq.mpr c4
   clear c4
   replace H := Option.bind_eq_some_iff.mp H
   obtain ⟨ag, ap, H⟩ := H
   replace H : (some (ag.toList == ([97, 122, 45, 76, 97, 116, 110, 45, 65, 90] : List UInt8))) = some r := H
   have A5 := Aside0.mk ap
   clear ap
   obtain rfl := Option.some.inj H
   go_enter Try.func9, Try.ntmps9
   go_wp2_with (first | ((with_reducible refine gate_callee (f := 11) rfl ?_); refine goesL_ (some 1) rfl rfl Try.func11 (by kernel_rfl) rfl #[.string (⟨#[83, 71, 78, 45, 98, 101, 45, 70, 82]⟩ : ByteArray)] rfl Qm ?_; (with_reducible refine (render_Case.calls (⟨#[83, 71, 78, 45, 98, 101, 45, 70, 82]⟩ : ByteArray) ae _ A1.out).mono ?_); rintro e w6 ⟨rfl, hb⟩; refine ⟨_, rfl, ?_⟩; have af := Aside0.mk (wT_ (Qw HB.out) hb); clear HB; have HB := af; clear af; (try clear hb); (try clear hb2); (try clear hk); (try clear hi)) | (go_at_call 11; (with_reducible refine (render_Case.calls (⟨#[101, 110, 45, 99, 97, 45, 88, 45, 67, 65, 45, 108, 97, 116, 110]⟩ : ByteArray) ac _ A3.out).mono ?_); rintro e w7 ⟨rfl, hb⟩; have af := Aside0.mk (wT_ (Qw HB.out) hb); clear HB; have HB := af; clear af; (try clear hb); (try clear hb2); (try clear hk); (try clear hi)) | (go_at_call 11; (with_reducible refine (render_Case.calls (⟨#[65, 90, 45, 76, 65, 84, 78, 45, 97, 122]⟩ : ByteArray) ag _ A5.out).mono ?_); rintro e w8 ⟨rfl, hb⟩; have af := Aside0.mk (wT_ (Qw HB.out) hb); clear HB; have HB := af; clear af; (try clear hb); (try clear hb2); (try clear hk); (try clear hi)))
   go_ret
   exact ⟨Qe, Qw HB.out⟩
  ·rw [if_neg c4] at H
   have aC : (ac.toList == ([101, 110, 45, 67, 65, 45, 120, 45, 99, 97, 45, 108, 97, 116, 110] : List UInt8)) = false := beq_eq_false_iff_ne.mpr c4
   have aD : (ac.toList != ([101, 110, 45, 67, 65, 45, 120, 45, 99, 97, 45, 108, 97, 116, 110] : List UInt8)) = true := bne_iff_ne.mpr c4
   obtain rfl := Option.some.inj H
   go_enter Try.func9, Try.ntmps9
   go_wp2_with (first | ((with_reducible refine gate_callee (f := 11) rfl ?_); refine goesL_ (some 1) rfl rfl Try.func11 (by kernel_rfl) rfl #[.string (⟨#[83, 71, 78, 45, 98, 101, 45, 70, 82]⟩ : ByteArray)] rfl Qm ?_; (with_reducible refine (render_Case.calls (⟨#[83, 71, 78, 45, 98, 101, 45, 70, 82]⟩ : ByteArray) ae _ A1.out).mono ?_); rintro e w9 ⟨rfl, hb⟩; refine ⟨_, rfl, ?_⟩; have af := Aside0.mk (wT_ (Qw HB.out) hb); clear HB; have HB := af; clear af; (try clear hb); (try clear hb2); (try clear hk); (try clear hi)) | (go_at_call 11; (with_reducible refine (render_Case.calls (⟨#[101, 110, 45, 99, 97, 45, 88, 45, 67, 65, 45, 108, 97, 116, 110]⟩ : ByteArray) ac _ A3.out).mono ?_); rintro e w10 ⟨rfl, hb⟩; have af := Aside0.mk (wT_ (Qw HB.out) hb); clear HB; have HB := af; clear af; (try clear hb); (try clear hb2); (try clear hk); (try clear hi)))
   go_ret
   exact ⟨Qe, Qw HB.out⟩
 ·rw [if_neg c2] at H
  have ah : (ae.toList == ([115, 103, 110, 45, 66, 69, 45, 70, 82] : List UInt8)) = false := beq_eq_false_iff_ne.mpr c2
  have aA : (ae.toList != ([115, 103, 110, 45, 66, 69, 45, 70, 82] : List UInt8)) = true := bne_iff_ne.mpr c2
  obtain rfl := Option.some.inj H
  go_enter Try.func9, Try.ntmps9
  go_wp2_with (first | ((with_reducible refine gate_callee (f := 11) rfl ?_); refine goesL_ (some 1) rfl rfl Try.func11 (by kernel_rfl) rfl #[.string (⟨#[83, 71, 78, 45, 98, 101, 45, 70, 82]⟩ : ByteArray)] rfl Qm ?_; (with_reducible refine (render_Case.calls (⟨#[83, 71, 78, 45, 98, 101, 45, 70, 82]⟩ : ByteArray) ae _ A1.out).mono ?_); rintro e w11 ⟨rfl, hb⟩; refine ⟨_, rfl, ?_⟩; have af := Aside0.mk (wT_ (Qw HB.out) hb); clear HB; have HB := af; clear af; (try clear hb); (try clear hb2); (try clear hk); (try clear hi)))
  go_ret
  exact ⟨Qe, Qw HB.out⟩
def r2_lower.f (a0 : Int) : Option (Int) := if a0 ≥ 65 then (if a0 ≤ 90 then (some ((((a0 - 65) % 256) + 97) % 256)) else (some a0)) else (some a0)
set_option maxHeartbeats 8000000 in
set_option maxRecDepth 100000 in
theorem r2_lower.calls (a0 : Int) (r : Int) (w : World) (h : r2_lower.f a0 = some r) :
  Calls Try.prog 32 #[.int .u8 a0] w fun e w' => e = .returned (.int .u8 r) ∧ Drawn0 w w' := by
 have H : (if a0 ≥ 65 then (if a0 ≤ 90 then (some ((((a0 - 65) % 256) + 97) % 256)) else (some a0)) else (some a0)) = some r := h
 clear h
 by_cases c2 : a0 ≥ 65
 ·rw [if_pos c2] at H
  have ah : decide (65 ≤ a0) = true := decide_eq_true c2
  clear c2
  by_cases c3 : a0 ≤ 90
  ·rw [if_pos c3] at H
   have ao : decide (a0 ≤ 90) = true := decide_eq_true c3
   clear c3
   obtain rfl := Option.some.inj H
   go_enter Try.func32, Try.ntmps32
   go_wp2
   go_ret
   exact ⟨Qs, Q0⟩
  ·rw [if_neg c3] at H
   have ao : decide (a0 ≤ 90) = false := decide_eq_false c3
   clear c3
   obtain rfl := Option.some.inj H
   go_enter Try.func32, Try.ntmps32
   go_wp2
   go_ret
   exact ⟨Qs, Q0⟩
 ·rw [if_neg c2] at H
  have ah : decide (65 ≤ a0) = false := decide_eq_false c2
  clear c2
  obtain rfl := Option.some.inj H
  go_enter Try.func32, Try.ntmps32
  go_wp2
  go_ret
  exact ⟨Qs, Q0⟩
def r2_Lower.l0 : Nat → ByteArray → List Int → Int → Option (ByteArray)
 | 0, _, _, _ => none
 | k + 1, x0, x3, x4 => if x4 < (x0.size : Int) then (if 0 ≤ x4 then ((r2_lower.f (bt x0 x4)).bind fun ak => (if x3.length < 140737488355328 then (r2_Lower.l0 k x0 (x3 ++ [ak]) (wrap64 (x4 + 1))) else (none))) else (none)) else (some (strOfNums x3))
def r2_Lower.f (k : Nat) (a0 : ByteArray) : Option (ByteArray) := r2_Lower.l0 k a0 ([] : List Int) 0
set_option maxHeartbeats 8000000 in
set_option maxRecDepth 100000 in
theorem r2_Lower.calls (k : Nat) (a0 : ByteArray) (r : ByteArray) (w : World) (h : r2_Lower.f k a0 = some r) :
  Calls Try.prog 12 #[.string a0] w fun e w' => e = .returned (.string r) ∧ Below w.heap.size w w' := by
 have HB := Aside0.mk (Below.refl w.heap.size w)
 have H : (r2_Lower.l0 k a0 ([] : List Int) 0) = some r := h
 clear h
 have H' := Aside0.mk H
 clear H
 go_enter Try.func12, Try.ntmps12
 go_wp2
 go_loopg [3, 4] k (fun kq v3 v4 w' => ∃ (ab : List Int) (aa : Int), v4 = .int .i64 aa ∧ Aside0 (r2_Lower.l0 kq a0 ab aa = some r) ∧ Aside0 (kq ≤ k) ∧ Aside0 (Kd.R (Kd.int .u8) 5 w' w.heap.size (fun _ => True) v3 ab) ∧ Aside0 (Below w.heap.size w w'))
 case atStart => exact ⟨(([] : List Int)), (0), Qs, H', ⟨Nat.le_refl _⟩, ⟨by first | exact Kd.R_nil _ _ _ _ _ | exact Kd.N_nil _ _ _ _ _ | exact Kd.V_nil _ _ _ _ _ | exact Kd.Q_nil _ _ _ _ _ | exact Kd.S_nil _ _ _ _ _⟩, ⟨Qw HB.out⟩⟩
 case round =>
  clear H'
  try clear c1
  obtain ⟨ab, aa, rfl, HA, HK1, HO_3, HB⟩ := hrel
  cases gk with
  | zero => exact absurd HA.out (by simp [r2_Lower.l0])
  | succ k1 =>
   have H := HA.out
   clear HA
   simp only [r2_Lower.l0] at H
   by_cases c2 : aa < (a0.size : Int)
   ·rw [if_pos c2] at H
    have ah : decide (aa < (a0.size : Int)) = true := decide_eq_true c2
    clear c2
    by_cases c3 : 0 ≤ aa
    ·rw [if_pos c3] at H
     have ao : decide (0 ≤ aa) = true := decide_eq_true c3
     clear c3
     replace H := Option.bind_eq_some_iff.mp H
     obtain ⟨ak, ap, H⟩ := H
     replace H : (if ab.length < 140737488355328 then (r2_Lower.l0 k1 a0 (ab ++ [ak]) (wrap64 (aa + 1))) else (none)) = some r := H
     have A5 := Aside0.mk ap
     clear ap
     by_cases c6 : ab.length < 140737488355328
     ·rw [if_pos c6] at H
      have aq := Aside0.mk c6
      clear c6
      obtain ⟨ar, ai⟩ : ∃ y_ : List Int, y_ = (ab ++ [ak]) := ⟨_, rfl⟩
      replace H : (r2_Lower.l0 k1 a0 ar (wrap64 (aa + 1))) = some r := by first | (rw [ai]; with_reducible exact H) | (have H2_ := (Option.bind_some _ _).symm.trans H; rw [ai]; with_reducible exact H2_) | (have H2_ := (Option.bind_some _ _).symm.trans H; with_reducible exact H2_) | with_reducible exact H | (rw [ai]; exact H) | exact H
      have au := Aside0.mk ai
      clear ai
      have H' := Aside0.mk H
      clear H
      have p4 : 0 ≤ (aa : Int) := of_decide_eq_true Qa
      have q4 : aa < (a0.size : Int) := of_decide_eq_true Qa
      have hx4 := bt_at a0 aa
      replace p4 := eq_true p4
      replace q4 := eq_true q4
      go_wp2_with (first | ((with_reducible refine gate_callee (f := 32) rfl ?_); refine goesL_ (some 15) rfl rfl Try.func32 (by kernel_rfl) rfl #[.int .u8 (bt a0 aa)] rfl Qm ?_; (with_reducible refine (r2_lower.calls (bt a0 aa) ak _ A5.out).mono ?_); rintro e w' ⟨rfl, ⟨nd, rfl⟩⟩; refine ⟨_, rfl, ?_⟩) | ((with_reducible refine gate_builtin (b := .append) (xs := #[.tmp 11, .tmp 16]) rfl ?_); at_builtin; refine Kd.R_append (Kd.int .u8) (w0 := w) w.heap.size rfl (.tmp 11) (.tmp 16) 27 5 (.int .u8 0) 1 rfl Try.underlying27 info5 rfl (by decide) (by omega) u3 ab ak [.int .u8 ak] (fun _ => True) (fun _ => False) rfl rfl ?aP (fun _ hk => hk.elim) ?aF ?aO ?aB ?aS ?aL ?_; (case aP => exact rfl); (case aB => exact (Qw HB.out)); (case aF => exact (fun _ _ => trivial)); (case aO => exact (Qr HO_3.out)); (case aS => exact (below_size (Qw HB.out))); (case aL => have := aq.out; omega); intro v111 w7 ho hb hg hat; rw [← au.out] at ho; have af := Aside0.mk (hb); have av := Aside0.mk (ho); clear HB; clear HO_3; have HB := af; have aw := av; clear af av; clear ho hb hg hat))
      go_roundg k1
      case measure => have := HK1.out; omega
      case rel => exact ⟨(ar), (wrap64 (aa + 1)), Qs, H', ⟨by have := HK1.out; omega⟩, ⟨Qr aw.out⟩, ⟨Qw HB.out⟩⟩
     ·rw [if_neg c6] at H
      exact absurd H (by simp)
    ·rw [if_neg c3] at H
     exact absurd H (by simp)
   ·rw [if_neg c2] at H
    have ah : decide (aa < (a0.size : Int)) = false := decide_eq_false c2
    clear c2
    obtain rfl := Option.some.inj H
    have aE := own_string (P := Try.prog) Try.underlying27 Try.underlying5 Try.underlying9 (Kd.own_of_R HO_3.out)
    go_wp2
    go_ret
    exact ⟨Qe, Qw HB.out⟩
def r2_upper.f (a0 : Int) : Option (Int) := if a0 ≥ 97 then (if a0 ≤ 122 then (some ((((a0 - 97) % 256) + 65) % 256)) else (some a0)) else (some a0)
set_option maxHeartbeats 8000000 in
set_option maxRecDepth 100000 in
theorem r2_upper.calls (a0 : Int) (r : Int) (w : World) (h : r2_upper.f a0 = some r) :
  Calls Try.prog 33 #[.int .u8 a0] w fun e w' => e = .returned (.int .u8 r) ∧ Drawn0 w w' := by
 have H : (if a0 ≥ 97 then (if a0 ≤ 122 then (some ((((a0 - 97) % 256) + 65) % 256)) else (some a0)) else (some a0)) = some r := h
 clear h
 by_cases c2 : a0 ≥ 97
 ·rw [if_pos c2] at H
  have ah : decide (97 ≤ a0) = true := decide_eq_true c2
  clear c2
  by_cases c3 : a0 ≤ 122
  ·rw [if_pos c3] at H
   have ao : decide (a0 ≤ 122) = true := decide_eq_true c3
   clear c3
   obtain rfl := Option.some.inj H
   go_enter Try.func33, Try.ntmps33
   go_wp2
   go_ret
   exact ⟨Qs, Q0⟩
  ·rw [if_neg c3] at H
   have ao : decide (a0 ≤ 122) = false := decide_eq_false c3
   clear c3
   obtain rfl := Option.some.inj H
   go_enter Try.func33, Try.ntmps33
   go_wp2
   go_ret
   exact ⟨Qs, Q0⟩
 ·rw [if_neg c2] at H
  have ah : decide (97 ≤ a0) = false := decide_eq_false c2
  clear c2
  obtain rfl := Option.some.inj H
  go_enter Try.func33, Try.ntmps33
  go_wp2
  go_ret
  exact ⟨Qs, Q0⟩
def r2_Upper.l0 : Nat → ByteArray → List Int → Int → Option (ByteArray)
 | 0, _, _, _ => none
 | k + 1, x0, x3, x4 => if x4 < (x0.size : Int) then (if 0 ≤ x4 then ((r2_upper.f (bt x0 x4)).bind fun al => (if x3.length < 140737488355328 then (r2_Upper.l0 k x0 (x3 ++ [al]) (wrap64 (x4 + 1))) else (none))) else (none)) else (some (strOfNums x3))
def r2_Upper.f (k : Nat) (a0 : ByteArray) : Option (ByteArray) := r2_Upper.l0 k a0 ([] : List Int) 0
set_option maxHeartbeats 8000000 in
set_option maxRecDepth 100000 in
theorem r2_Upper.calls (k : Nat) (a0 : ByteArray) (r : ByteArray) (w : World) (h : r2_Upper.f k a0 = some r) :
  Calls Try.prog 13 #[.string a0] w fun e w' => e = .returned (.string r) ∧ Below w.heap.size w w' := by
 have HB := Aside0.mk (Below.refl w.heap.size w)
 have H : (r2_Upper.l0 k a0 ([] : List Int) 0) = some r := h
 clear h
 have H' := Aside0.mk H
 clear H
 go_enter Try.func13, Try.ntmps13
 go_wp2
 go_loopg [3, 4] k (fun kq v3 v4 w' => ∃ (ab : List Int) (aa : Int), v4 = .int .i64 aa ∧ Aside0 (r2_Upper.l0 kq a0 ab aa = some r) ∧ Aside0 (kq ≤ k) ∧ Aside0 (Kd.R (Kd.int .u8) 5 w' w.heap.size (fun _ => True) v3 ab) ∧ Aside0 (Below w.heap.size w w'))
 case atStart => exact ⟨(([] : List Int)), (0), Qs, H', ⟨Nat.le_refl _⟩, ⟨by first | exact Kd.R_nil _ _ _ _ _ | exact Kd.N_nil _ _ _ _ _ | exact Kd.V_nil _ _ _ _ _ | exact Kd.Q_nil _ _ _ _ _ | exact Kd.S_nil _ _ _ _ _⟩, ⟨Qw HB.out⟩⟩
 case round =>
  clear H'
  try clear c1
  obtain ⟨ab, aa, rfl, HA, HK1, HO_3, HB⟩ := hrel
  cases gk with
  | zero => exact absurd HA.out (by simp [r2_Upper.l0])
  | succ k1 =>
   have H := HA.out
   clear HA
   simp only [r2_Upper.l0] at H
   by_cases c2 : aa < (a0.size : Int)
   ·rw [if_pos c2] at H
    have ah : decide (aa < (a0.size : Int)) = true := decide_eq_true c2
    clear c2
    by_cases c3 : 0 ≤ aa
    ·rw [if_pos c3] at H
     have ao : decide (0 ≤ aa) = true := decide_eq_true c3
     clear c3
     replace H := Option.bind_eq_some_iff.mp H
     obtain ⟨al, ap, H⟩ := H
     replace H : (if ab.length < 140737488355328 then (r2_Upper.l0 k1 a0 (ab ++ [al]) (wrap64 (aa + 1))) else (none)) = some r := H
     have A5 := Aside0.mk ap
     clear ap
     by_cases c6 : ab.length < 140737488355328
     ·rw [if_pos c6] at H
      have aq := Aside0.mk c6
      clear c6
      obtain ⟨ax, aj⟩ : ∃ y_ : List Int, y_ = (ab ++ [al]) := ⟨_, rfl⟩
      replace H : (r2_Upper.l0 k1 a0 ax (wrap64 (aa + 1))) = some r := by first | (rw [aj]; with_reducible exact H) | (have H2_ := (Option.bind_some _ _).symm.trans H; rw [aj]; with_reducible exact H2_) | (have H2_ := (Option.bind_some _ _).symm.trans H; with_reducible exact H2_) | with_reducible exact H | (rw [aj]; exact H) | exact H
      have ay := Aside0.mk aj
      clear aj
      have H' := Aside0.mk H
      clear H
      have p4 : 0 ≤ (aa : Int) := of_decide_eq_true Qa
      have q4 : aa < (a0.size : Int) := of_decide_eq_true Qa
      have hx4 := bt_at a0 aa
      replace p4 := eq_true p4
      replace q4 := eq_true q4
      go_wp2_with (first | ((with_reducible refine gate_callee (f := 33) rfl ?_); refine goesL_ (some 15) rfl rfl Try.func33 (by kernel_rfl) rfl #[.int .u8 (bt a0 aa)] rfl Qm ?_; (with_reducible refine (r2_upper.calls (bt a0 aa) al _ A5.out).mono ?_); rintro e w' ⟨rfl, ⟨nd, rfl⟩⟩; refine ⟨_, rfl, ?_⟩) | ((with_reducible refine gate_builtin (b := .append) (xs := #[.tmp 11, .tmp 16]) rfl ?_); at_builtin; refine Kd.R_append (Kd.int .u8) (w0 := w) w.heap.size rfl (.tmp 11) (.tmp 16) 27 5 (.int .u8 0) 1 rfl Try.underlying27 info5 rfl (by decide) (by omega) u3 ab al [.int .u8 al] (fun _ => True) (fun _ => False) rfl rfl ?aP (fun _ hk => hk.elim) ?aF ?aO ?aB ?aS ?aL ?_; (case aP => exact rfl); (case aB => exact (Qw HB.out)); (case aF => exact (fun _ _ => trivial)); (case aO => exact (Qr HO_3.out)); (case aS => exact (below_size (Qw HB.out))); (case aL => have := aq.out; omega); intro v115 w7 ho hb hg hat; rw [← ay.out] at ho; have af := Aside0.mk (hb); have av := Aside0.mk (ho); clear HB; clear HO_3; have HB := af; have az := av; clear af av; clear ho hb hg hat))
      go_roundg k1
      case measure => have := HK1.out; omega
      case rel => exact ⟨(ax), (wrap64 (aa + 1)), Qs, H', ⟨by have := HK1.out; omega⟩, ⟨Qr az.out⟩, ⟨Qw HB.out⟩⟩
     ·rw [if_neg c6] at H
      exact absurd H (by simp)
    ·rw [if_neg c3] at H
     exact absurd H (by simp)
   ·rw [if_neg c2] at H
    have ah : decide (aa < (a0.size : Int)) = false := decide_eq_false c2
    clear c2
    obtain rfl := Option.some.inj H
    have aE := own_string (P := Try.prog) Try.underlying27 Try.underlying5 Try.underlying9 (Kd.own_of_R HO_3.out)
    go_wp2
    go_ret
    exact ⟨Qe, Qw HB.out⟩
end Go.Proofs.Ytojglflamecnkaa.P
