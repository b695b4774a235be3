-- Written for this claim by the session's own run of the print, functions proved by hand put in.
import Derived.Test.YtojglflamecnkaaPx0
import Derived.Test.YtojglflamecnkaaPx4
import Derived.Test.YtojglflamecnkaaMade
import Derived.Test.YtojglflamecnkaaPx11
import Derived.Test.YtojglflamecnkaaPx12
import Derived.Test.YtojglflamecnkaaPx19
import Derived.Test.YtojglflamecnkaaPx21
import Derived.Test.YtojglflamecnkaaPx22
namespace Go.Proofs.Ytojglflamecnkaa.P
open Go.RowKit Go.Proofs.YtojglflamecnkaaW.PrintWords Go.Proofs.YtojglflamecnkaaW.PrintLast Go.Proofs.YtojglflamecnkaaW.PrintMore
attribute [local go_sem] max2_int min2_int max_two min_two max_three min_three max_four min_four   -- for this text's walks alone
set_option linter.unusedVariables false
set_option linter.unusedSimpArgs false
def isoglosslaw08_RenderTells.f (k : Nat) (a0_0 : Int) (a0_1 : Int) (a0_2 : Int) (a0_3 : Int) (l0_4 : List Int) (l0_5 : List Int) (l0_6 : List Int) (a0_7 : Int) (a1 : ByteArray) (a2 : Int) : Option (Bool) := (isoglosslaw08_awake.f).bind fun t538 => ((isoglossref06_Made.f k a0_0 a0_1 a0_2 a0_3 l0_4 l0_5 l0_6 a0_7).bind fun bt539 => ((isoglosslaw08_short.f a1).bind fun t556 => (if t538 = true then ((render_Lower.f bt539.1 bt539.2.1 bt539.2.2.1 bt539.2.2.2.1 bt539.2.2.2.2.1 bt539.2.2.2.2.2.1 bt539.2.2.2.2.2.2.1 bt539.2.2.2.2.2.2.2).bind fun t557 => ((isoglossref06_Subtags.f k bt539.1 bt539.2.1 bt539.2.2.1 bt539.2.2.2.1 bt539.2.2.2.2.1 bt539.2.2.2.2.2.1 bt539.2.2.2.2.2.2.1 bt539.2.2.2.2.2.2.2).bind fun t558 => ((isoglossref04_Join.f k t558).bind fun t561 => (if t557.toList = t561.toList then ((render_String.f bt539.1 bt539.2.1 bt539.2.2.1 bt539.2.2.2.1 bt539.2.2.2.2.1 bt539.2.2.2.2.2.1 bt539.2.2.2.2.2.2.1 bt539.2.2.2.2.2.2.2).bind fun t562 => ((isoglossref08_String.f k bt539.1 bt539.2.1 bt539.2.2.1 bt539.2.2.2.1 bt539.2.2.2.2.1 bt539.2.2.2.2.2.1 bt539.2.2.2.2.2.2.1 bt539.2.2.2.2.2.2.2).bind fun t563 => (if t562.toList = t563.toList then ((render_Case.f t556).bind fun t564 => ((isoglossref08_Case.f k t556).bind fun t565 => (if t564.toList = t565.toList then ((render_Short.f k bt539.1 bt539.2.1 bt539.2.2.1 bt539.2.2.2.1 bt539.2.2.2.2.1 bt539.2.2.2.2.2.1 bt539.2.2.2.2.2.2.1 bt539.2.2.2.2.2.2.2 a2).bind fun t566 => ((isoglossref08_Short.f k bt539.1 bt539.2.1 bt539.2.2.1 bt539.2.2.2.1 bt539.2.2.2.2.1 bt539.2.2.2.2.2.1 bt539.2.2.2.2.2.2.1 bt539.2.2.2.2.2.2.2 a2).bind fun t567 => (if t566.toList = t567.toList then ((render_Short.f k bt539.1 bt539.2.1 bt539.2.2.1 bt539.2.2.2.1 bt539.2.2.2.2.1 bt539.2.2.2.2.2.1 bt539.2.2.2.2.2.2.1 bt539.2.2.2.2.2.2.2 (Go.bits .and .i64 a2 63)).bind fun t568 => ((isoglossref08_Short.f k bt539.1 bt539.2.1 bt539.2.2.1 bt539.2.2.2.1 bt539.2.2.2.2.1 bt539.2.2.2.2.2.1 bt539.2.2.2.2.2.2.1 bt539.2.2.2.2.2.2.2 (Go.bits .and .i64 a2 63)).bind fun t569 => (if t568.toList = t569.toList then ((render_String.f (⟨#[]⟩ : ByteArray) ([] : List ByteArray) (⟨#[]⟩ : ByteArray) (⟨#[]⟩ : ByteArray) ([] : List ByteArray) ([] : List (S62)) ([] : List ByteArray) (⟨#[]⟩ : ByteArray)).bind fun t570 => (some (t570.toList == ([] : List UInt8)))) else (some false)))) else (some false)))) else (some false)))) else (some false)))) else (some false))))) else (some false))))
def isoglosslaw08_RenderTells.T4 : Bool × List (List Nat × List Nat) := (true, [([], []), ([0], [0]), ([1], [1]), ([2, 1, 1], [1, 2]), ([1], [1]), ([4, 3, 1], [1, 4]), ([5, 5, 1], [1, 5]), ([3, 6, 1], [1, 3, 6]), ([1, 7], [1, 7]), ([8, 6], [8]), ([9], [9]), ([10, 9, 9], [9, 10]), ([9], [9]), ([12, 11, 9], [9, 12]), ([11, 13, 9], [9, 11, 13]), ([9, 14], [9, 14]), ([15, 13], [15]), ([16], [16]), ([17, 16, 16], [16, 17]), ([16], [16]), ([19, 18, 16], [16, 19]), ([18, 20, 16], [16, 18, 20]), ([16, 21], [16, 21]), ([22, 20], [22]), ([23], [23]), ([23], [23]), ([24, 25, 23, 23], [23, 24, 25]), ([23], [23]), ([23], [23]), ([27, 28, 26, 23], [23, 27, 28]), ([26, 29, 23], [23, 26, 29]), ([23, 30], [23, 30]), ([31, 29], [31]), ([32], [32]), ([32], [32]), ([34, 32], [32, 34]), ([33, 35, 32, 32], [32, 33, 35]), ([32], [32]), ([32], [32]), ([38, 32], [32, 38]), ([37, 39, 36, 32], [32, 37, 39]), ([36, 40, 32], [32, 36, 40]), ([32, 41], [32, 41]), ([42, 40], [42]), ([43], [43]), ([44, 43, 43], [43, 44]), ([45, 43], [43, 45]), ([43, 46], [43, 46]), ([47, 45, 0, 1, 2, 3, 4, 5, 6, 7, 8, 9, 10, 11, 12, 13, 14, 15, 16, 17, 18, 19, 20, 21, 22, 23, 24, 25, 26, 27, 28, 29, 30, 31, 32, 33, 34, 35, 36, 37, 38, 39, 40, 41, 42, 43, 44, 45, 46, 47], [47])])
def isoglosslaw08_RenderTells.B4 : List Nat := [0, 1, 3, 7, 3, 31, 63, 127, 255, 511, 1023, 2047, 1023, 8191, 16383, 32767, 65535, 131071, 262143, 131071, 1048575, 2097151, 4194303, 8388607, 16777215, 16777215, 67108863, 16777215, 16777215, 536870911, 1073741823, 2147483647, 4294967295, 8589934591, 8589934591, 25769803775, 68719476735, 8589934591, 8589934591, 283467841535, 1099511627775, 2199023255551, 4398046511103, 8796093022207, 17592186044415, 35184372088831, 70368744177663, 140737488355327, 281474976710655]
theorem isoglosslaw08_RenderTells.tab4 : rtab .any (opsOf Try.f7 4) = isoglosslaw08_RenderTells.T4 := by kernel_rfl
theorem isoglosslaw08_RenderTells.bits4 : waitsOk isoglosslaw08_RenderTells.T4.2 isoglosslaw08_RenderTells.B4 = true := by kernel_rfl
set_option maxHeartbeats 8000000 in
set_option maxRecDepth 100000 in
theorem isoglosslaw08_RenderTells.calls (k : Nat) (a0_0 : Int) (a0_1 : Int) (a0_2 : Int) (a0_3 : Int) (A0_4 : Option Addr) (c0_4 : Nat) (l0_4 : List Int) (A0_5 : Option Addr) (c0_5 : Nat) (l0_5 : List Int) (A0_6 : Option Addr) (c0_6 : Nat) (l0_6 : List Int) (a0_7 : Int) (a1 : ByteArray) (a2 : Int) (r : Bool) (w : World) (hr0_4 : Kd.C (Kd.int .i64) w A0_4 l0_4.length l0_4) (hc0_4 : l0_4.length ≤ c0_4) (hr0_5 : Kd.C (Kd.int .i64) w A0_5 l0_5.length l0_5) (hc0_5 : l0_5.length ≤ c0_5) (hr0_6 : Kd.C (Kd.int .i64) w A0_6 l0_6.length l0_6) (hc0_6 : l0_6.length ≤ c0_6) (h : isoglosslaw08_RenderTells.f k a0_0 a0_1 a0_2 a0_3 l0_4 l0_5 l0_6 a0_7 a1 a2 = some r) (hrt : r = true) :
  Calls Try.prog 7 #[.agg #[.int .i64 a0_0, .int .i64 a0_1, .int .i64 a0_2, .int .i64 a0_3, .slice A0_4 l0_4.length c0_4, .slice A0_5 l0_5.length c0_5, .slice A0_6 l0_6.length c0_6, .int .i64 a0_7], .string a1, .int .i64 a2] w fun e w' => e = .returned (.bool r) ∧ Below w.heap.size w w' := by
 have HRT := Aside0.mk hrt
 clear hrt
 have hu31 := Try.underlying31
 have hu34 := Try.underlying34
 have HR0_4 := Aside0.mk hr0_4
 have HC0_4 := Aside0.mk hc0_4
 clear hr0_4 hc0_4
 have HR0_5 := Aside0.mk hr0_5
 have HC0_5 := Aside0.mk hc0_5
 clear hr0_5 hc0_5
 have HR0_6 := Aside0.mk hr0_6
 have HC0_6 := Aside0.mk hc0_6
 clear hr0_6 hc0_6
 have HB := Aside0.mk (Below.refl w.heap.size w)
 have H : ((isoglosslaw08_awake.f).bind fun t538 => ((isoglossref06_Made.f k a0_0 a0_1 a0_2 a0_3 l0_4 l0_5 l0_6 a0_7).bind fun bt539 => ((isoglosslaw08_short.f a1).bind fun t556 => (if t538 = true then ((render_Lower.f bt539.1 bt539.2.1 bt539.2.2.1 bt539.2.2.2.1 bt539.2.2.2.2.1 bt539.2.2.2.2.2.1 bt539.2.2.2.2.2.2.1 bt539.2.2.2.2.2.2.2).bind fun t557 => ((isoglossref06_Subtags.f k bt539.1 bt539.2.1 bt539.2.2.1 bt539.2.2.2.1 bt539.2.2.2.2.1 bt539.2.2.2.2.2.1 bt539.2.2.2.2.2.2.1 bt539.2.2.2.2.2.2.2).bind fun t558 => ((isoglossref04_Join.f k t558).bind fun t561 => (if t557.toList = t561.toList then ((render_String.f bt539.1 bt539.2.1 bt539.2.2.1 bt539.2.2.2.1 bt539.2.2.2.2.1 bt539.2.2.2.2.2.1 bt539.2.2.2.2.2.2.1 bt539.2.2.2.2.2.2.2).bind fun t562 => ((isoglossref08_String.f k bt539.1 bt539.2.1 bt539.2.2.1 bt539.2.2.2.1 bt539.2.2.2.2.1 bt539.2.2.2.2.2.1 bt539.2.2.2.2.2.2.1 bt539.2.2.2.2.2.2.2).bind fun t563 => (if t562.toList = t563.toList then ((render_Case.f t556).bind fun t564 => ((isoglossref08_Case.f k t556).bind fun t565 => (if t564.toList = t565.toList then ((render_Short.f k bt539.1 bt539.2.1 bt539.2.2.1 bt539.2.2.2.1 bt539.2.2.2.2.1 bt539.2.2.2.2.2.1 bt539.2.2.2.2.2.2.1 bt539.2.2.2.2.2.2.2 a2).bind fun t566 => ((isoglossref08_Short.f k bt539.1 bt539.2.1 bt539.2.2.1 bt539.2.2.2.1 bt539.2.2.2.2.1 bt539.2.2.2.2.2.1 bt539.2.2.2.2.2.2.1 bt539.2.2.2.2.2.2.2 a2).bind fun t567 => (if t566.toList = t567.toList then ((render_Short.f k bt539.1 bt539.2.1 bt539.2.2.1 bt539.2.2.2.1 bt539.2.2.2.2.1 bt539.2.2.2.2.2.1 bt539.2.2.2.2.2.2.1 bt539.2.2.2.2.2.2.2 (Go.bits .and .i64 a2 63)).bind fun t568 => ((isoglossref08_Short.f k bt539.1 bt539.2.1 bt539.2.2.1 bt539.2.2.2.1 bt539.2.2.2.2.1 bt539.2.2.2.2.2.1 bt539.2.2.2.2.2.2.1 bt539.2.2.2.2.2.2.2 (Go.bits .and .i64 a2 63)).bind fun t569 => (if t568.toList = t569.toList then ((render_String.f (⟨#[]⟩ : ByteArray) ([] : List ByteArray) (⟨#[]⟩ : ByteArray) (⟨#[]⟩ : ByteArray) ([] : List ByteArray) ([] : List (S62)) ([] : List ByteArray) (⟨#[]⟩ : ByteArray)).bind fun t570 => (some (t570.toList == ([] : List UInt8)))) else (some false)))) else (some false)))) else (some false)))) else (some false)))) else (some false))))) else (some false))))) = some r := h
 clear h
 replace H := Option.bind_eq_some_iff.mp H
 obtain ⟨t538, A40, H⟩ := H
 replace H : ((isoglossref06_Made.f k a0_0 a0_1 a0_2 a0_3 l0_4 l0_5 l0_6 a0_7).bind fun bt539 => ((isoglosslaw08_short.f a1).bind fun t556 => (if t538 = true then ((render_Lower.f bt539.1 bt539.2.1 bt539.2.2.1 bt539.2.2.2.1 bt539.2.2.2.2.1 bt539.2.2.2.2.2.1 bt539.2.2.2.2.2.2.1 bt539.2.2.2.2.2.2.2).bind fun t557 => ((isoglossref06_Subtags.f k bt539.1 bt539.2.1 bt539.2.2.1 bt539.2.2.2.1 bt539.2.2.2.2.1 bt539.2.2.2.2.2.1 bt539.2.2.2.2.2.2.1 bt539.2.2.2.2.2.2.2).bind fun t558 => ((isoglossref04_Join.f k t558).bind fun t561 => (if t557.toList = t561.toList then ((render_String.f bt539.1 bt539.2.1 bt539.2.2.1 bt539.2.2.2.1 bt539.2.2.2.2.1 bt539.2.2.2.2.2.1 bt539.2.2.2.2.2.2.1 bt539.2.2.2.2.2.2.2).bind fun t562 => ((isoglossref08_String.f k bt539.1 bt539.2.1 bt539.2.2.1 bt539.2.2.2.1 bt539.2.2.2.2.1 bt539.2.2.2.2.2.1 bt539.2.2.2.2.2.2.1 bt539.2.2.2.2.2.2.2).bind fun t563 => (if t562.toList = t563.toList then ((render_Case.f t556).bind fun t564 => ((isoglossref08_Case.f k t556).bind fun t565 => (if t564.toList = t565.toList then ((render_Short.f k bt539.1 bt539.2.1 bt539.2.2.1 bt539.2.2.2.1 bt539.2.2.2.2.1 bt539.2.2.2.2.2.1 bt539.2.2.2.2.2.2.1 bt539.2.2.2.2.2.2.2 a2).bind fun t566 => ((isoglossref08_Short.f k bt539.1 bt539.2.1 bt539.2.2.1 bt539.2.2.2.1 bt539.2.2.2.2.1 bt539.2.2.2.2.2.1 bt539.2.2.2.2.2.2.1 bt539.2.2.2.2.2.2.2 a2).bind fun t567 => (if t566.toList = t567.toList then ((render_Short.f k bt539.1 bt539.2.1 bt539.2.2.1 bt539.2.2.2.1 bt539.2.2.2.2.1 bt539.2.2.2.2.2.1 bt539.2.2.2.2.2.2.1 bt539.2.2.2.2.2.2.2 (Go.bits .and .i64 a2 63)).bind fun t568 => ((isoglossref08_Short.f k bt539.1 bt539.2.1 bt539.2.2.1 bt539.2.2.2.1 bt539.2.2.2.2.1 bt539.2.2.2.2.2.1 bt539.2.2.2.2.2.2.1 bt539.2.2.2.2.2.2.2 (Go.bits .and .i64 a2 63)).bind fun t569 => (if t568.toList = t569.toList then ((render_String.f (⟨#[]⟩ : ByteArray) ([] : List ByteArray) (⟨#[]⟩ : ByteArray) (⟨#[]⟩ : ByteArray) ([] : List ByteArray) ([] : List (S62)) ([] : List ByteArray) (⟨#[]⟩ : ByteArray)).bind fun t570 => (some (t570.toList == ([] : List UInt8)))) else (some false)))) else (some false)))) else (some false)))) else (some false)))) else (some false))))) else (some false)))) = some r := H
 have A4 := Aside0.mk A40
 clear A40
 replace H := Option.bind_eq_some_iff.mp H
 obtain ⟨⟨t539, t540, t543, t544, t545, t548, t551, t554⟩, A50, H⟩ := H
 replace H : ((isoglosslaw08_short.f a1).bind fun t556 => (if t538 = true then ((render_Lower.f t539 t540 t543 t544 t545 t548 t551 t554).bind fun t557 => ((isoglossref06_Subtags.f k t539 t540 t543 t544 t545 t548 t551 t554).bind fun t558 => ((isoglossref04_Join.f k t558).bind fun t561 => (if t557.toList = t561.toList then ((render_String.f t539 t540 t543 t544 t545 t548 t551 t554).bind fun t562 => ((isoglossref08_String.f k t539 t540 t543 t544 t545 t548 t551 t554).bind fun t563 => (if t562.toList = t563.toList then ((render_Case.f t556).bind fun t564 => ((isoglossref08_Case.f k t556).bind fun t565 => (if t564.toList = t565.toList then ((render_Short.f k t539 t540 t543 t544 t545 t548 t551 t554 a2).bind fun t566 => ((isoglossref08_Short.f k t539 t540 t543 t544 t545 t548 t551 t554 a2).bind fun t567 => (if t566.toList = t567.toList then ((render_Short.f k t539 t540 t543 t544 t545 t548 t551 t554 (Go.bits .and .i64 a2 63)).bind fun t568 => ((isoglossref08_Short.f k t539 t540 t543 t544 t545 t548 t551 t554 (Go.bits .and .i64 a2 63)).bind fun t569 => (if t568.toList = t569.toList then ((render_String.f (⟨#[]⟩ : ByteArray) ([] : List ByteArray) (⟨#[]⟩ : ByteArray) (⟨#[]⟩ : ByteArray) ([] : List ByteArray) ([] : List (S62)) ([] : List ByteArray) (⟨#[]⟩ : ByteArray)).bind fun t570 => (some (t570.toList == ([] : List UInt8)))) else (some false)))) else (some false)))) else (some false)))) else (some false)))) else (some false))))) else (some false))) = some r := H
 have A5 := Aside0.mk A50
 clear A50
 replace H := Option.bind_eq_some_iff.mp H
 obtain ⟨t556, A60, H⟩ := H
 replace H : (if t538 = true then ((render_Lower.f t539 t540 t543 t544 t545 t548 t551 t554).bind fun t557 => ((isoglossref06_Subtags.f k t539 t540 t543 t544 t545 t548 t551 t554).bind fun t558 => ((isoglossref04_Join.f k t558).bind fun t561 => (if t557.toList = t561.toList then ((render_String.f t539 t540 t543 t544 t545 t548 t551 t554).bind fun t562 => ((isoglossref08_String.f k t539 t540 t543 t544 t545 t548 t551 t554).bind fun t563 => (if t562.toList = t563.toList then ((render_Case.f t556).bind fun t564 => ((isoglossref08_Case.f k t556).bind fun t565 => (if t564.toList = t565.toList then ((render_Short.f k t539 t540 t543 t544 t545 t548 t551 t554 a2).bind fun t566 => ((isoglossref08_Short.f k t539 t540 t543 t544 t545 t548 t551 t554 a2).bind fun t567 => (if t566.toList = t567.toList then ((render_Short.f k t539 t540 t543 t544 t545 t548 t551 t554 (Go.bits .and .i64 a2 63)).bind fun t568 => ((isoglossref08_Short.f k t539 t540 t543 t544 t545 t548 t551 t554 (Go.bits .and .i64 a2 63)).bind fun t569 => (if t568.toList = t569.toList then ((render_String.f (⟨#[]⟩ : ByteArray) ([] : List ByteArray) (⟨#[]⟩ : ByteArray) (⟨#[]⟩ : ByteArray) ([] : List ByteArray) ([] : List (S62)) ([] : List ByteArray) (⟨#[]⟩ : ByteArray)).bind fun t570 => (some (t570.toList == ([] : List UInt8)))) else (some false)))) else (some false)))) else (some false)))) else (some false)))) else (some false))))) else (some false)) = some r := H
 have A6 := Aside0.mk A60
 clear A60
 by_cases c7 : t538 = true
 ·subst c7
  have H1 : ((render_Lower.f t539 t540 t543 t544 t545 t548 t551 t554).bind fun t557 => ((isoglossref06_Subtags.f k t539 t540 t543 t544 t545 t548 t551 t554).bind fun t558 => ((isoglossref04_Join.f k t558).bind fun t561 => (if t557.toList = t561.toList then ((render_String.f t539 t540 t543 t544 t545 t548 t551 t554).bind fun t562 => ((isoglossref08_String.f k t539 t540 t543 t544 t545 t548 t551 t554).bind fun t563 => (if t562.toList = t563.toList then ((render_Case.f t556).bind fun t564 => ((isoglossref08_Case.f k t556).bind fun t565 => (if t564.toList = t565.toList then ((render_Short.f k t539 t540 t543 t544 t545 t548 t551 t554 a2).bind fun t566 => ((isoglossref08_Short.f k t539 t540 t543 t544 t545 t548 t551 t554 a2).bind fun t567 => (if t566.toList = t567.toList then ((render_Short.f k t539 t540 t543 t544 t545 t548 t551 t554 (Go.bits .and .i64 a2 63)).bind fun t568 => ((isoglossref08_Short.f k t539 t540 t543 t544 t545 t548 t551 t554 (Go.bits .and .i64 a2 63)).bind fun t569 => (if t568.toList = t569.toList then ((render_String.f (⟨#[]⟩ : ByteArray) ([] : List ByteArray) (⟨#[]⟩ : ByteArray) (⟨#[]⟩ : ByteArray) ([] : List ByteArray) ([] : List (S62)) ([] : List ByteArray) (⟨#[]⟩ : ByteArray)).bind fun t570 => (some (t570.toList == ([] : List UInt8)))) else (some false)))) else (some false)))) else (some false)))) else (some false)))) else (some false))))) = some r := by rw [if_pos rfl] at H; exact H
  clear H
  have H := H1
  clear H1
  replace H := Option.bind_eq_some_iff.mp H
  obtain ⟨t557, A80, H⟩ := H
  replace H : ((isoglossref06_Subtags.f k t539 t540 t543 t544 t545 t548 t551 t554).bind fun t558 => ((isoglossref04_Join.f k t558).bind fun t561 => (if t557.toList = t561.toList then ((render_String.f t539 t540 t543 t544 t545 t548 t551 t554).bind fun t562 => ((isoglossref08_String.f k t539 t540 t543 t544 t545 t548 t551 t554).bind fun t563 => (if t562.toList = t563.toList then ((render_Case.f t556).bind fun t564 => ((isoglossref08_Case.f k t556).bind fun t565 => (if t564.toList = t565.toList then ((render_Short.f k t539 t540 t543 t544 t545 t548 t551 t554 a2).bind fun t566 => ((isoglossref08_Short.f k t539 t540 t543 t544 t545 t548 t551 t554 a2).bind fun t567 => (if t566.toList = t567.toList then ((render_Short.f k t539 t540 t543 t544 t545 t548 t551 t554 (Go.bits .and .i64 a2 63)).bind fun t568 => ((isoglossref08_Short.f k t539 t540 t543 t544 t545 t548 t551 t554 (Go.bits .and .i64 a2 63)).bind fun t569 => (if t568.toList = t569.toList then ((render_String.f (⟨#[]⟩ : ByteArray) ([] : List ByteArray) (⟨#[]⟩ : ByteArray) (⟨#[]⟩ : ByteArray) ([] : List ByteArray) ([] : List (S62)) ([] : List ByteArray) (⟨#[]⟩ : ByteArray)).bind fun t570 => (some (t570.toList == ([] : List UInt8)))) else (some false)))) else (some false)))) else (some false)))) else (some false)))) else (some false)))) = some r := H
  have A8 := Aside0.mk A80
  clear A80
  replace H := Option.bind_eq_some_iff.mp H
  obtain ⟨t558, A90, H⟩ := H
  replace H : ((isoglossref04_Join.f k t558).bind fun t561 => (if t557.toList = t561.toList then ((render_String.f t539 t540 t543 t544 t545 t548 t551 t554).bind fun t562 => ((isoglossref08_String.f k t539 t540 t543 t544 t545 t548 t551 t554).bind fun t563 => (if t562.toList = t563.toList then ((render_Case.f t556).bind fun t564 => ((isoglossref08_Case.f k t556).bind fun t565 => (if t564.toList = t565.toList then ((render_Short.f k t539 t540 t543 t544 t545 t548 t551 t554 a2).bind fun t566 => ((isoglossref08_Short.f k t539 t540 t543 t544 t545 t548 t551 t554 a2).bind fun t567 => (if t566.toList = t567.toList then ((render_Short.f k t539 t540 t543 t544 t545 t548 t551 t554 (Go.bits .and .i64 a2 63)).bind fun t568 => ((isoglossref08_Short.f k t539 t540 t543 t544 t545 t548 t551 t554 (Go.bits .and .i64 a2 63)).bind fun t569 => (if t568.toList = t569.toList then ((render_String.f (⟨#[]⟩ : ByteArray) ([] : List ByteArray) (⟨#[]⟩ : ByteArray) (⟨#[]⟩ : ByteArray) ([] : List ByteArray) ([] : List (S62)) ([] : List ByteArray) (⟨#[]⟩ : ByteArray)).bind fun t570 => (some (t570.toList == ([] : List UInt8)))) else (some false)))) else (some false)))) else (some false)))) else (some false)))) else (some false))) = some r := H
  have A9 := Aside0.mk A90
  clear A90
  replace H := Option.bind_eq_some_iff.mp H
  obtain ⟨t561, A100, H⟩ := H
  replace H : (if t557.toList = t561.toList then ((render_String.f t539 t540 t543 t544 t545 t548 t551 t554).bind fun t562 => ((isoglossref08_String.f k t539 t540 t543 t544 t545 t548 t551 t554).bind fun t563 => (if t562.toList = t563.toList then ((render_Case.f t556).bind fun t564 => ((isoglossref08_Case.f k t556).bind fun t565 => (if t564.toList = t565.toList then ((render_Short.f k t539 t540 t543 t544 t545 t548 t551 t554 a2).bind fun t566 => ((isoglossref08_Short.f k t539 t540 t543 t544 t545 t548 t551 t554 a2).bind fun t567 => (if t566.toList = t567.toList then ((render_Short.f k t539 t540 t543 t544 t545 t548 t551 t554 (Go.bits .and .i64 a2 63)).bind fun t568 => ((isoglossref08_Short.f k t539 t540 t543 t544 t545 t548 t551 t554 (Go.bits .and .i64 a2 63)).bind fun t569 => (if t568.toList = t569.toList then ((render_String.f (⟨#[]⟩ : ByteArray) ([] : List ByteArray) (⟨#[]⟩ : ByteArray) (⟨#[]⟩ : ByteArray) ([] : List ByteArray) ([] : List (S62)) ([] : List ByteArray) (⟨#[]⟩ : ByteArray)).bind fun t570 => (some (t570.toList == ([] : List UInt8)))) else (some false)))) else (some false)))) else (some false)))) else (some false)))) else (some false)) = some r := H
  have A10 := Aside0.mk A100
  clear A100
  by_cases c11 : t557.toList = t561.toList
  ·rw [if_pos c11] at H
   have c11b0 : (t557.toList == t561.toList) = true := beq_iff_eq.mpr c11
   have c11b1 : (t557.toList != t561.toList) = false := bne_eq_false_iff_eq.mpr c11
   clear c11
   replace H := Option.bind_eq_some_iff.mp H
   obtain ⟨t562, A120, H⟩ := H
   replace H : ((isoglossref08_String.f k t539 t540 t543 t544 t545 t548 t551 t554).bind fun t563 => (if t562.toList = t563.toList then ((render_Case.f t556).bind fun t564 => ((isoglossref08_Case.f k t556).bind fun t565 => (if t564.toList = t565.toList then ((render_Short.f k t539 t540 t543 t544 t545 t548 t551 t554 a2).bind fun t566 => ((isoglossref08_Short.f k t539 t540 t543 t544 t545 t548 t551 t554 a2).bind fun t567 => (if t566.toList = t567.toList then ((render_Short.f k t539 t540 t543 t544 t545 t548 t551 t554 (Go.bits .and .i64 a2 63)).bind fun t568 => ((isoglossref08_Short.f k t539 t540 t543 t544 t545 t548 t551 t554 (Go.bits .and .i64 a2 63)).bind fun t569 => (if t568.toList = t569.toList then ((render_String.f (⟨#[]⟩ : ByteArray) ([] : List ByteArray) (⟨#[]⟩ : ByteArray) (⟨#[]⟩ : ByteArray) ([] : List ByteArray) ([] : List (S62)) ([] : List ByteArray) (⟨#[]⟩ : ByteArray)).bind fun t570 => (some (t570.toList == ([] : List UInt8)))) else (some false)))) else (some false)))) else (some false)))) else (some false))) = some r := H
   have A12 := Aside0.mk A120
   clear A120
   replace H := Option.bind_eq_some_iff.mp H
   obtain ⟨t563, A130, H⟩ := H
   replace H : (if t562.toList = t563.toList then ((render_Case.f t556).bind fun t564 => ((isoglossref08_Case.f k t556).bind fun t565 => (if t564.toList = t565.toList then ((render_Short.f k t539 t540 t543 t544 t545 t548 t551 t554 a2).bind fun t566 => ((isoglossref08_Short.f k t539 t540 t543 t544 t545 t548 t551 t554 a2).bind fun t567 => (if t566.toList = t567.toList then ((render_Short.f k t539 t540 t543 t544 t545 t548 t551 t554 (Go.bits .and .i64 a2 63)).bind fun t568 => ((isoglossref08_Short.f k t539 t540 t543 t544 t545 t548 t551 t554 (Go.bits .and .i64 a2 63)).bind fun t569 => (if t568.toList = t569.toList then ((render_String.f (⟨#[]⟩ : ByteArray) ([] : List ByteArray) (⟨#[]⟩ : ByteArray) (⟨#[]⟩ : ByteArray) ([] : List ByteArray) ([] : List (S62)) ([] : List ByteArray) (⟨#[]⟩ : ByteArray)).bind fun t570 => (some (t570.toList == ([] : List UInt8)))) else (some false)))) else (some false)))) else (some false)))) else (some false)) = some r := H
   have A13 := Aside0.mk A130
   clear A130
   by_cases c14 : t562.toList = t563.toList
   ·rw [if_pos c14] at H
    have c14b0 : (t562.toList == t563.toList) = true := beq_iff_eq.mpr c14
    have c14b1 : (t562.toList != t563.toList) = false := bne_eq_false_iff_eq.mpr c14
    clear c14
    replace H := Option.bind_eq_some_iff.mp H
    obtain ⟨t564, A150, H⟩ := H
    replace H : ((isoglossref08_Case.f k t556).bind fun t565 => (if t564.toList = t565.toList then ((render_Short.f k t539 t540 t543 t544 t545 t548 t551 t554 a2).bind fun t566 => ((isoglossref08_Short.f k t539 t540 t543 t544 t545 t548 t551 t554 a2).bind fun t567 => (if t566.toList = t567.toList then ((render_Short.f k t539 t540 t543 t544 t545 t548 t551 t554 (Go.bits .and .i64 a2 63)).bind fun t568 => ((isoglossref08_Short.f k t539 t540 t543 t544 t545 t548 t551 t554 (Go.bits .and .i64 a2 63)).bind fun t569 => (if t568.toList = t569.toList then ((render_String.f (⟨#[]⟩ : ByteArray) ([] : List ByteArray) (⟨#[]⟩ : ByteArray) (⟨#[]⟩ : ByteArray) ([] : List ByteArray) ([] : List (S62)) ([] : List ByteArray) (⟨#[]⟩ : ByteArray)).bind fun t570 => (some (t570.toList == ([] : List UInt8)))) else (some false)))) else (some false)))) else (some false))) = some r := H
    have A15 := Aside0.mk A150
    clear A150
    replace H := Option.bind_eq_some_iff.mp H
    obtain ⟨t565, A160, H⟩ := H
    replace H : (if t564.toList = t565.toList then ((render_Short.f k t539 t540 t543 t544 t545 t548 t551 t554 a2).bind fun t566 => ((isoglossref08_Short.f k t539 t540 t543 t544 t545 t548 t551 t554 a2).bind fun t567 => (if t566.toList = t567.toList then ((render_Short.f k t539 t540 t543 t544 t545 t548 t551 t554 (Go.bits .and .i64 a2 63)).bind fun t568 => ((isoglossref08_Short.f k t539 t540 t543 t544 t545 t548 t551 t554 (Go.bits .and .i64 a2 63)).bind fun t569 => (if t568.toList = t569.toList then ((render_String.f (⟨#[]⟩ : ByteArray) ([] : List ByteArray) (⟨#[]⟩ : ByteArray) (⟨#[]⟩ : ByteArray) ([] : List ByteArray) ([] : List (S62)) ([] : List ByteArray) (⟨#[]⟩ : ByteArray)).bind fun t570 => (some (t570.toList == ([] : List UInt8)))) else (some false)))) else (some false)))) else (some false)) = some r := H
    have A16 := Aside0.mk A160
    clear A160
    by_cases c17 : t564.toList = t565.toList
    ·rw [if_pos c17] at H
     have c17b0 : (t564.toList == t565.toList) = true := beq_iff_eq.mpr c17
     have c17b1 : (t564.toList != t565.toList) = false := bne_eq_false_iff_eq.mpr c17
     clear c17
     replace H := Option.bind_eq_some_iff.mp H
     obtain ⟨t566, A180, H⟩ := H
     replace H : ((isoglossref08_Short.f k t539 t540 t543 t544 t545 t548 t551 t554 a2).bind fun t567 => (if t566.toList = t567.toList then ((render_Short.f k t539 t540 t543 t544 t545 t548 t551 t554 (Go.bits .and .i64 a2 63)).bind fun t568 => ((isoglossref08_Short.f k t539 t540 t543 t544 t545 t548 t551 t554 (Go.bits .and .i64 a2 63)).bind fun t569 => (if t568.toList = t569.toList then ((render_String.f (⟨#[]⟩ : ByteArray) ([] : List ByteArray) (⟨#[]⟩ : ByteArray) (⟨#[]⟩ : ByteArray) ([] : List ByteArray) ([] : List (S62)) ([] : List ByteArray) (⟨#[]⟩ : ByteArray)).bind fun t570 => (some (t570.toList == ([] : List UInt8)))) else (some false)))) else (some false))) = some r := H
     have A18 := Aside0.mk A180
     clear A180
     replace H := Option.bind_eq_some_iff.mp H
     obtain ⟨t567, A190, H⟩ := H
     replace H : (if t566.toList = t567.toList then ((render_Short.f k t539 t540 t543 t544 t545 t548 t551 t554 (Go.bits .and .i64 a2 63)).bind fun t568 => ((isoglossref08_Short.f k t539 t540 t543 t544 t545 t548 t551 t554 (Go.bits .and .i64 a2 63)).bind fun t569 => (if t568.toList = t569.toList then ((render_String.f (⟨#[]⟩ : ByteArray) ([] : List ByteArray) (⟨#[]⟩ : ByteArray) (⟨#[]⟩ : ByteArray) ([] : List ByteArray) ([] : List (S62)) ([] : List ByteArray) (⟨#[]⟩ : ByteArray)).bind fun t570 => (some (t570.toList == ([] : List UInt8)))) else (some false)))) else (some false)) = some r := H
     have A19 := Aside0.mk A190
     clear A190
     by_cases c20 : t566.toList = t567.toList
     ·rw [if_pos c20] at H
      have c20b0 : (t566.toList == t567.toList) = true := beq_iff_eq.mpr c20
      have c20b1 : (t566.toList != t567.toList) = false := bne_eq_false_iff_eq.mpr c20
      clear c20
      replace H := Option.bind_eq_some_iff.mp H
      obtain ⟨t568, A210, H⟩ := H
      replace H : ((isoglossref08_Short.f k t539 t540 t543 t544 t545 t548 t551 t554 (Go.bits .and .i64 a2 63)).bind fun t569 => (if t568.toList = t569.toList then ((render_String.f (⟨#[]⟩ : ByteArray) ([] : List ByteArray) (⟨#[]⟩ : ByteArray) (⟨#[]⟩ : ByteArray) ([] : List ByteArray) ([] : List (S62)) ([] : List ByteArray) (⟨#[]⟩ : ByteArray)).bind fun t570 => (some (t570.toList == ([] : List UInt8)))) else (some false))) = some r := H
      have A21 := Aside0.mk A210
      clear A210
      replace H := Option.bind_eq_some_iff.mp H
      obtain ⟨t569, A220, H⟩ := H
      replace H : (if t568.toList = t569.toList then ((render_String.f (⟨#[]⟩ : ByteArray) ([] : List ByteArray) (⟨#[]⟩ : ByteArray) (⟨#[]⟩ : ByteArray) ([] : List ByteArray) ([] : List (S62)) ([] : List ByteArray) (⟨#[]⟩ : ByteArray)).bind fun t570 => (some (t570.toList == ([] : List UInt8)))) else (some false)) = some r := H
      have A22 := Aside0.mk A220
      clear A220
      by_cases c23 : t568.toList = t569.toList
      ·rw [if_pos c23] at H
       have c23b0 : (t568.toList == t569.toList) = true := beq_iff_eq.mpr c23
       have c23b1 : (t568.toList != t569.toList) = false := bne_eq_false_iff_eq.mpr c23
       clear c23
       replace H := Option.bind_eq_some_iff.mp H
       obtain ⟨t570, A240, H⟩ := H
       replace H : (some (t570.toList == ([] : List UInt8))) = some r := H
       have A24 := Aside0.mk A240
       clear A240
       obtain rfl := Option.some.inj H
       go_enter Try.func7, Try.ntmps7
       try go_wp2_with (first | ((with_reducible refine gate_dst (N := 3) rfl ?_); refine box_event ?hg (N := 3) ?hd (cs := #[.int .i64 a0_0, .int .i64 a0_1, .int .i64 a0_2, .int .i64 a0_3, .slice A0_4 l0_4.length c0_4, .slice A0_5 l0_5.length c0_5, .slice A0_6 l0_6.length c0_6, .int .i64 a0_7]) (t := 31) ?hr ?_; (case hd => rfl); (case hg => rfl); (case hr => first | (go_simp; done) | (go_simp; rfl)); intro gb537 hg w25 hbox hb; have n0_ := Aside0.mk (below_step (by repeat (first | (with_reducible first | exact HB.out | apply below_alloc | apply pw_below_drewN | apply below_drew1) | exact HB.out)) hb); have n1_ := Aside0.mk (hbox); have n2_ := Aside0.mk ((by rw [hg]; exact (below_size (by repeat (first | (with_reducible first | exact HB.out | apply below_alloc | apply pw_below_drewN | apply below_drew1) | exact HB.out))) : w.heap.size ≤ gb537)); have n3_ := Aside0.mk ((by rw [hg]; exact (below_size (by repeat (first | (with_reducible first | exact HB.out | apply below_alloc | apply pw_below_drewN | apply below_drew1) | exact HB.out))) : w.heap.size ≤ gb537)); clear HB; have HB := n0_; have BK537 := n1_; have GW537 := n2_; have GE537 := n3_; clear n0_ n1_ n2_ n3_; clear hb hbox hg) | ((with_reducible refine gate_callee (f := 9) rfl ?_); refine goesL_ (some 9) rfl rfl Try.func9 (by kernel_rfl) rfl #[] rfl (by (try simp only [List.map_toArray, List.map_cons, List.map_nil]); first | done | rfl | (simp only [List.length_drop, List.length_take]; rfl)) ?_; (with_reducible refine (isoglosslaw08_awake.calls  true _ A4.out).mono ?_); rintro e w26 ⟨rfl, hb⟩; refine ⟨_, rfl, ?_⟩; have n0_ := Aside0.mk (blk_below (g := gb537) (o := .cells #[.int .i64 a0_0, .int .i64 a0_1, .int .i64 a0_2, .int .i64 a0_3, .slice A0_4 l0_4.length c0_4, .slice A0_5 l0_5.length c0_5, .slice A0_6 l0_6.length c0_6, .int .i64 a0_7] 31 (0, 0)) (by (with_reducible repeat (first | refine blk_drewN ?_ _ | refine blk_drew ?_ | refine blk_alloc ?_ _)); exact BK537.out) hb); have n1_ := Aside0.mk (below_step (by repeat (first | (with_reducible first | exact HB.out | apply below_alloc | apply pw_below_drewN | apply below_drew1 | refine below_set ?_ GE537.out) | exact HB.out)) hb); clear BK537; clear HB; have BK537 := n0_; have HB := n1_; clear n0_ n1_; (try clear hb); (try clear hb2); (try clear hk); (try clear hi); have hcz27_0 : w26.cell? ⟨gb537, 0, none⟩ = some (.int .i64 a0_0) := (blk_cell BK537.out 0).trans rfl; have hcz27_1 : w26.cell? ⟨gb537, 1, none⟩ = some (.int .i64 a0_1) := (blk_cell BK537.out 1).trans rfl; have hcz27_2 : w26.cell? ⟨gb537, 2, none⟩ = some (.int .i64 a0_2) := (blk_cell BK537.out 2).trans rfl; have hcz27_3 : w26.cell? ⟨gb537, 3, none⟩ = some (.int .i64 a0_3) := (blk_cell BK537.out 3).trans rfl; have hcz27_4 : w26.cell? ⟨gb537, 4, none⟩ = some (.slice A0_4 l0_4.length c0_4) := (blk_cell BK537.out 4).trans rfl; have hcz27_5 : w26.cell? ⟨gb537, 5, none⟩ = some (.slice A0_5 l0_5.length c0_5) := (blk_cell BK537.out 5).trans rfl; have hcz27_6 : w26.cell? ⟨gb537, 6, none⟩ = some (.slice A0_6 l0_6.length c0_6) := (blk_cell BK537.out 6).trans rfl; have hcz27_7 : w26.cell? ⟨gb537, 7, none⟩ = some (.int .i64 a0_7) := (blk_cell BK537.out 7).trans rfl; have hfz27_0 := blk_frozen BK537.out 0; have hfz27_1 := blk_frozen BK537.out 1; have hfz27_2 := blk_frozen BK537.out 2; have hfz27_3 := blk_frozen BK537.out 3; have hfz27_4 := blk_frozen BK537.out 4; have hfz27_5 := blk_frozen BK537.out 5; have hfz27_6 := blk_frozen BK537.out 6; have hfz27_7 := blk_frozen BK537.out 7) | ((with_reducible refine gate_callee (f := 15) rfl ?_); refine goesL_ (some 11) rfl rfl Try.func15 (by kernel_rfl) rfl #[.agg #[.int .i64 a0_0, .int .i64 a0_1, .int .i64 a0_2, .int .i64 a0_3, .slice A0_4 l0_4.length c0_4, .slice A0_5 l0_5.length c0_5, .slice A0_6 l0_6.length c0_6, .int .i64 a0_7]] rfl (by (try simp only [List.map_toArray, List.map_cons, List.map_nil]); first | done | rfl | (simp only [List.length_drop, List.length_take]; rfl)) ?_; (with_reducible refine (isoglossref06_Made.calls k a0_0 a0_1 a0_2 a0_3 _ _ l0_4 _ _ l0_5 _ _ l0_6 a0_7 t539 t540 t543 t544 t545 t548 t551 t554 _ ?side1 ?side2 ?side3 ?side4 ?side5 ?side6 A5.out).mono ?_); (case side1 => repeat (first | exact (Kd.C_below HR0_4.out HB.out) | (with_reducible refine Kd.C_alloc ?_ _) | (with_reducible refine Kd.C_drewN ?_ _) | (with_reducible refine Kd.C_drew ?_))); (case side2 => exact HC0_4.out); (case side3 => repeat (first | exact (Kd.C_below HR0_5.out HB.out) | (with_reducible refine Kd.C_alloc ?_ _) | (with_reducible refine Kd.C_drewN ?_ _) | (with_reducible refine Kd.C_drew ?_))); (case side4 => exact HC0_5.out); (case side5 => repeat (first | exact (Kd.C_below HR0_6.out HB.out) | (with_reducible refine Kd.C_alloc ?_ _) | (with_reducible refine Kd.C_drewN ?_ _) | (with_reducible refine Kd.C_drew ?_))); (case side6 => exact HC0_6.out); rintro e w28 ⟨v541, v546, v549, v552, rfl, ho0, ho1, ho2, ho3, hb⟩; refine ⟨_, rfl, ?_⟩; have n0_ := Aside0.mk (Kd.R_lower ho0 (below_size (by repeat (first | (with_reducible first | exact HB.out | apply below_alloc | apply pw_below_drewN | apply below_drew1 | refine below_set ?_ GE537.out) | exact HB.out)))); have n1_ := Aside0.mk (Kd.R_lower ho1 (below_size (by repeat (first | (with_reducible first | exact HB.out | apply below_alloc | apply pw_below_drewN | apply below_drew1 | refine below_set ?_ GE537.out) | exact HB.out)))); have n2_ := Aside0.mk (Kd.S_lower ho2 (below_size (by repeat (first | (with_reducible first | exact HB.out | apply below_alloc | apply pw_below_drewN | apply below_drew1 | refine below_set ?_ GE537.out) | exact HB.out)))); have n3_ := Aside0.mk (Kd.R_lower ho3 (below_size (by repeat (first | (with_reducible first | exact HB.out | apply below_alloc | apply pw_below_drewN | apply below_drew1 | refine below_set ?_ GE537.out) | exact HB.out)))); have n4_ := Aside0.mk (blk_below (g := gb537) (o := .cells #[.int .i64 a0_0, .int .i64 a0_1, .int .i64 a0_2, .int .i64 a0_3, .slice A0_4 l0_4.length c0_4, .slice A0_5 l0_5.length c0_5, .slice A0_6 l0_6.length c0_6, .int .i64 a0_7] 31 (0, 0)) (by (with_reducible repeat (first | refine blk_drewN ?_ _ | refine blk_drew ?_ | refine blk_alloc ?_ _)); exact BK537.out) hb); have n5_ := Aside0.mk (below_step (by repeat (first | (with_reducible first | exact HB.out | apply below_alloc | apply pw_below_drewN | apply below_drew1 | refine below_set ?_ GE537.out) | exact HB.out)) hb); clear BK537; clear HB; have HO542 := n0_; have HO547 := n1_; have HO550 := n2_; have HO553 := n3_; have BK537 := n4_; have HB := n5_; clear n0_ n1_ n2_ n3_ n4_ n5_; (try clear hb); (try clear hb2); (try clear hk); (try clear hi); (try clear ho0); (try clear ho1); (try clear ho2); (try clear ho3)) | ((with_reducible refine gate_dst (N := 8) rfl ?_); refine box_event ?hg (N := 8) ?hd (cs := #[.string (⟨#[]⟩ : ByteArray), .slice none 0 0, .string (⟨#[]⟩ : ByteArray), .string (⟨#[]⟩ : ByteArray), .slice none 0 0, .slice none 0 0, .slice none 0 0, .string (⟨#[]⟩ : ByteArray)]) (t := 34) ?hr ?_; (case hd => rfl); (case hg => rfl); (case hr => first | (go_simp; done) | (go_simp; rfl)); intro gb555 hg w29 hbox hb; have n0_ := Aside0.mk (Kd.R_below (by (with_reducible repeat (first | apply Kd.R_alloc | apply Kd.R_drewN | apply Kd.R_drew)); exact HO542.out) hb); have n1_ := Aside0.mk (Kd.R_below (by (with_reducible repeat (first | apply Kd.R_alloc | apply Kd.R_drewN | apply Kd.R_drew)); exact HO547.out) hb); have n2_ := Aside0.mk (Kd.S_below (by (with_reducible repeat (first | apply Kd.S_alloc | apply Kd.S_drewN | apply Kd.S_drew)); exact HO550.out) hb); have n3_ := Aside0.mk (Kd.R_below (by (with_reducible repeat (first | apply Kd.R_alloc | apply Kd.R_drewN | apply Kd.R_drew)); exact HO553.out) hb); have n4_ := Aside0.mk (blk_below (g := gb537) (o := .cells #[.int .i64 a0_0, .int .i64 a0_1, .int .i64 a0_2, .int .i64 a0_3, .slice A0_4 l0_4.length c0_4, .slice A0_5 l0_5.length c0_5, .slice A0_6 l0_6.length c0_6, .int .i64 a0_7] 31 (0, 0)) (by (with_reducible repeat (first | refine blk_drewN ?_ _ | refine blk_drew ?_ | refine blk_alloc ?_ _)); exact BK537.out) hb); have n5_ := Aside0.mk (below_step (by repeat (first | (with_reducible first | exact HB.out | apply below_alloc | apply pw_below_drewN | apply below_drew1 | refine below_set ?_ GE537.out) | exact HB.out)) hb); have n6_ := Aside0.mk (hbox); have n7_ := Aside0.mk ((by rw [hg]; exact (below_size (by repeat (first | (with_reducible first | exact HB.out | apply below_alloc | apply pw_below_drewN | apply below_drew1 | refine below_set ?_ GE537.out) | exact HB.out))) : w.heap.size ≤ gb555)); have n8_ := Aside0.mk ((by rw [hg]; exact (below_size (by repeat (first | (with_reducible first | exact HB.out | apply below_alloc | apply pw_below_drewN | apply below_drew1 | refine below_set ?_ GE537.out) | exact HB.out))) : w.heap.size ≤ gb555)); have n9_ := Aside0.mk ((by rw [hg]; exact Nat.ne_of_lt (blk_lt (g := gb537) (o := .cells #[.int .i64 a0_0, .int .i64 a0_1, .int .i64 a0_2, .int .i64 a0_3, .slice A0_4 l0_4.length c0_4, .slice A0_5 l0_5.length c0_5, .slice A0_6 l0_6.length c0_6, .int .i64 a0_7] 31 (0, 0)) (by (with_reducible repeat (first | refine blk_drewN ?_ _ | refine blk_drew ?_ | refine blk_alloc ?_ _)); exact BK537.out)) : gb537 ≠ gb555)); have n10_ := Aside0.mk ((by rw [hg]; exact Nat.ne_of_gt (blk_lt (g := gb537) (o := .cells #[.int .i64 a0_0, .int .i64 a0_1, .int .i64 a0_2, .int .i64 a0_3, .slice A0_4 l0_4.length c0_4, .slice A0_5 l0_5.length c0_5, .slice A0_6 l0_6.length c0_6, .int .i64 a0_7] 31 (0, 0)) (by (with_reducible repeat (first | refine blk_drewN ?_ _ | refine blk_drew ?_ | refine blk_alloc ?_ _)); exact BK537.out)) : gb555 ≠ gb537)); clear HO542; clear HO547; clear HO550; clear HO553; clear BK537; clear HB; have HO542 := n0_; have HO547 := n1_; have HO550 := n2_; have HO553 := n3_; have BK537 := n4_; have HB := n5_; have BK555 := n6_; have GW555 := n7_; have GE555 := n8_; have NB537_555 := n9_; have NB555_537 := n10_; clear n0_ n1_ n2_ n3_ n4_ n5_ n6_ n7_ n8_ n9_ n10_; clear hb hbox hg; have hnb30 := NB555_537.out; have hnc30 := NB537_555.out; have hcz31_0 : w29.cell? ⟨gb555, 0, none⟩ = some (.string (⟨#[]⟩ : ByteArray)) := (blk_cell BK555.out 0).trans rfl; have hcz31_1 : w29.cell? ⟨gb555, 1, none⟩ = some (.slice none 0 0) := (blk_cell BK555.out 1).trans rfl; have hcz31_2 : w29.cell? ⟨gb555, 2, none⟩ = some (.string (⟨#[]⟩ : ByteArray)) := (blk_cell BK555.out 2).trans rfl; have hcz31_3 : w29.cell? ⟨gb555, 3, none⟩ = some (.string (⟨#[]⟩ : ByteArray)) := (blk_cell BK555.out 3).trans rfl; have hcz31_4 : w29.cell? ⟨gb555, 4, none⟩ = some (.slice none 0 0) := (blk_cell BK555.out 4).trans rfl; have hcz31_5 : w29.cell? ⟨gb555, 5, none⟩ = some (.slice none 0 0) := (blk_cell BK555.out 5).trans rfl; have hcz31_6 : w29.cell? ⟨gb555, 6, none⟩ = some (.slice none 0 0) := (blk_cell BK555.out 6).trans rfl; have hcz31_7 : w29.cell? ⟨gb555, 7, none⟩ = some (.string (⟨#[]⟩ : ByteArray)) := (blk_cell BK555.out 7).trans rfl; have hfz31_0 := blk_frozen BK555.out 0; have hfz31_1 := blk_frozen BK555.out 1; have hfz31_2 := blk_frozen BK555.out 2; have hfz31_3 := blk_frozen BK555.out 3; have hfz31_4 := blk_frozen BK555.out 4; have hfz31_5 := blk_frozen BK555.out 5; have hfz31_6 := blk_frozen BK555.out 6; have hfz31_7 := blk_frozen BK555.out 7; obtain ⟨Ao32, co32, eo32⟩ := Kd.R_slice HO542.out; subst eo32; obtain ⟨Ao33, co33, eo33⟩ := Kd.R_slice HO547.out; subst eo33; obtain ⟨Ao34, co34, eo34⟩ := Kd.S_slice HO550.out; subst eo34; obtain ⟨Ao35, co35, eo35⟩ := Kd.R_slice HO553.out; subst eo35) | ((with_reducible refine gate_callee (f := 10) rfl ?_); refine goesL_ (some 13) rfl rfl Try.func10 (by kernel_rfl) rfl #[.string a1] rfl (by (try simp only [List.map_toArray, List.map_cons, List.map_nil]); first | done | rfl | (simp only [List.length_drop, List.length_take]; rfl)) ?_; (with_reducible refine (isoglosslaw08_short.calls a1 t556 _ A6.out).mono ?_); rintro e w' ⟨rfl, ⟨nd, rfl⟩⟩; refine ⟨_, rfl, ?_⟩))
       have n0_ : Aside0 (Kd.R Kd.string 9 ((((((((w29.setCell ⟨gb555, 0, none⟩ (.string t539)).setCell ⟨gb555, 1, none⟩ (.slice Ao32 t540.length co32)).setCell ⟨gb555, 2, none⟩ (.string t543)).setCell ⟨gb555, 3, none⟩ (.string t544)).setCell ⟨gb555, 4, none⟩ (.slice Ao33 t545.length co33)).setCell ⟨gb555, 5, none⟩ (.slice Ao34 t548.length co34)).setCell ⟨gb555, 6, none⟩ (.slice Ao35 t551.length co35)).setCell ⟨gb555, 7, none⟩ (.string t554)) w.heap.size (fun k_ => some k_ ≠ (.slice Ao33 t545.length co33 : Value).ownBlock ∧ some k_ ≠ (.slice Ao35 t551.length co35 : Value).ownBlock) (.slice Ao32 t540.length co32) t540) := ⟨by (with_reducible repeat (first | apply Kd.R_alloc | apply Kd.R_drewN | apply Kd.R_drew)); exact Kd.R_mono (Kd.R_far (p := ⟨gb555, 7, none⟩) (Kd.R_far (p := ⟨gb555, 6, none⟩) (Kd.R_far (p := ⟨gb555, 5, none⟩) (Kd.R_far (p := ⟨gb555, 4, none⟩) (Kd.R_far (p := ⟨gb555, 3, none⟩) (Kd.R_far (p := ⟨gb555, 2, none⟩) (Kd.R_far (p := ⟨gb555, 1, none⟩) (Kd.R_far (p := ⟨gb555, 0, none⟩) (Kd.R_types HO542.out BK555.out (by decide)) (fun _ hk => hk.2) (.string t539)) (fun _ hk => hk.2) (.slice Ao32 t540.length co32)) (fun _ hk => hk.2) (.string t543)) (fun _ hk => hk.2) (.string t544)) (fun _ hk => hk.2) (.slice Ao33 t545.length co33)) (fun _ hk => hk.2) (.slice Ao34 t548.length co34)) (fun _ hk => hk.2) (.slice Ao35 t551.length co35)) (fun _ hk => hk.2) (.string t554)) (fun _ hk => ⟨hk.1.1, hk.1.2⟩)⟩
       have n1_ : Aside0 (Kd.R Kd.string 9 ((((((((w29.setCell ⟨gb555, 0, none⟩ (.string t539)).setCell ⟨gb555, 1, none⟩ (.slice Ao32 t540.length co32)).setCell ⟨gb555, 2, none⟩ (.string t543)).setCell ⟨gb555, 3, none⟩ (.string t544)).setCell ⟨gb555, 4, none⟩ (.slice Ao33 t545.length co33)).setCell ⟨gb555, 5, none⟩ (.slice Ao34 t548.length co34)).setCell ⟨gb555, 6, none⟩ (.slice Ao35 t551.length co35)).setCell ⟨gb555, 7, none⟩ (.string t554)) w.heap.size (fun k_ => some k_ ≠ (.slice Ao32 t540.length co32 : Value).ownBlock ∧ some k_ ≠ (.slice Ao35 t551.length co35 : Value).ownBlock) (.slice Ao33 t545.length co33) t545) := ⟨by (with_reducible repeat (first | apply Kd.R_alloc | apply Kd.R_drewN | apply Kd.R_drew)); exact Kd.R_mono (Kd.R_far (p := ⟨gb555, 7, none⟩) (Kd.R_far (p := ⟨gb555, 6, none⟩) (Kd.R_far (p := ⟨gb555, 5, none⟩) (Kd.R_far (p := ⟨gb555, 4, none⟩) (Kd.R_far (p := ⟨gb555, 3, none⟩) (Kd.R_far (p := ⟨gb555, 2, none⟩) (Kd.R_far (p := ⟨gb555, 1, none⟩) (Kd.R_far (p := ⟨gb555, 0, none⟩) (Kd.R_types HO547.out BK555.out (by decide)) (fun _ hk => hk.2) (.string t539)) (fun _ hk => hk.2) (.slice Ao32 t540.length co32)) (fun _ hk => hk.2) (.string t543)) (fun _ hk => hk.2) (.string t544)) (fun _ hk => hk.2) (.slice Ao33 t545.length co33)) (fun _ hk => hk.2) (.slice Ao34 t548.length co34)) (fun _ hk => hk.2) (.slice Ao35 t551.length co35)) (fun _ hk => hk.2) (.string t554)) (fun _ hk => ⟨hk.1.1, hk.1.2⟩)⟩
       have n2_ : Aside0 (Kd.S k62 62 ((((((((w29.setCell ⟨gb555, 0, none⟩ (.string t539)).setCell ⟨gb555, 1, none⟩ (.slice Ao32 t540.length co32)).setCell ⟨gb555, 2, none⟩ (.string t543)).setCell ⟨gb555, 3, none⟩ (.string t544)).setCell ⟨gb555, 4, none⟩ (.slice Ao33 t545.length co33)).setCell ⟨gb555, 5, none⟩ (.slice Ao34 t548.length co34)).setCell ⟨gb555, 6, none⟩ (.slice Ao35 t551.length co35)).setCell ⟨gb555, 7, none⟩ (.string t554)) w.heap.size (fun k_ => some k_ ≠ (.slice Ao32 t540.length co32 : Value).ownBlock ∧ some k_ ≠ (.slice Ao33 t545.length co33 : Value).ownBlock ∧ some k_ ≠ (.slice Ao35 t551.length co35 : Value).ownBlock) (.slice Ao34 t548.length co34) t548) := ⟨by (with_reducible repeat (first | apply Kd.S_alloc | apply Kd.S_drewN | apply Kd.S_drew)); exact Kd.S_mono (Kd.S_far (p := ⟨gb555, 7, none⟩) (Kd.S_far (p := ⟨gb555, 6, none⟩) (Kd.S_far (p := ⟨gb555, 5, none⟩) (Kd.S_far (p := ⟨gb555, 4, none⟩) (Kd.S_far (p := ⟨gb555, 3, none⟩) (Kd.S_far (p := ⟨gb555, 2, none⟩) (Kd.S_far (p := ⟨gb555, 1, none⟩) (Kd.S_far (p := ⟨gb555, 0, none⟩) (Kd.S_types HO550.out BK555.out (by decide)) (fun _ hk => hk.2) (.string t539)) (fun _ hk => hk.2) (.slice Ao32 t540.length co32)) (fun _ hk => hk.2) (.string t543)) (fun _ hk => hk.2) (.string t544)) (fun _ hk => hk.2) (.slice Ao33 t545.length co33)) (fun _ hk => hk.2) (.slice Ao34 t548.length co34)) (fun _ hk => hk.2) (.slice Ao35 t551.length co35)) (fun _ hk => hk.2) (.string t554)) (fun _ hk => ⟨hk.1.1, ⟨hk.1.2.1, hk.1.2.2⟩⟩)⟩
       have n3_ : Aside0 (Kd.R Kd.string 9 ((((((((w29.setCell ⟨gb555, 0, none⟩ (.string t539)).setCell ⟨gb555, 1, none⟩ (.slice Ao32 t540.length co32)).setCell ⟨gb555, 2, none⟩ (.string t543)).setCell ⟨gb555, 3, none⟩ (.string t544)).setCell ⟨gb555, 4, none⟩ (.slice Ao33 t545.length co33)).setCell ⟨gb555, 5, none⟩ (.slice Ao34 t548.length co34)).setCell ⟨gb555, 6, none⟩ (.slice Ao35 t551.length co35)).setCell ⟨gb555, 7, none⟩ (.string t554)) w.heap.size (fun k_ => some k_ ≠ (.slice Ao32 t540.length co32 : Value).ownBlock ∧ some k_ ≠ (.slice Ao33 t545.length co33 : Value).ownBlock) (.slice Ao35 t551.length co35) t551) := ⟨by (with_reducible repeat (first | apply Kd.R_alloc | apply Kd.R_drewN | apply Kd.R_drew)); exact Kd.R_mono (Kd.R_far (p := ⟨gb555, 7, none⟩) (Kd.R_far (p := ⟨gb555, 6, none⟩) (Kd.R_far (p := ⟨gb555, 5, none⟩) (Kd.R_far (p := ⟨gb555, 4, none⟩) (Kd.R_far (p := ⟨gb555, 3, none⟩) (Kd.R_far (p := ⟨gb555, 2, none⟩) (Kd.R_far (p := ⟨gb555, 1, none⟩) (Kd.R_far (p := ⟨gb555, 0, none⟩) (Kd.R_types HO553.out BK555.out (by decide)) (fun _ hk => hk.2) (.string t539)) (fun _ hk => hk.2) (.slice Ao32 t540.length co32)) (fun _ hk => hk.2) (.string t543)) (fun _ hk => hk.2) (.string t544)) (fun _ hk => hk.2) (.slice Ao33 t545.length co33)) (fun _ hk => hk.2) (.slice Ao34 t548.length co34)) (fun _ hk => hk.2) (.slice Ao35 t551.length co35)) (fun _ hk => hk.2) (.string t554)) (fun _ hk => ⟨hk.1.1, hk.1.2⟩)⟩
       have n4_ : Aside0 (((((((((w29.setCell ⟨gb555, 0, none⟩ (.string t539)).setCell ⟨gb555, 1, none⟩ (.slice Ao32 t540.length co32)).setCell ⟨gb555, 2, none⟩ (.string t543)).setCell ⟨gb555, 3, none⟩ (.string t544)).setCell ⟨gb555, 4, none⟩ (.slice Ao33 t545.length co33)).setCell ⟨gb555, 5, none⟩ (.slice Ao34 t548.length co34)).setCell ⟨gb555, 6, none⟩ (.slice Ao35 t551.length co35)).setCell ⟨gb555, 7, none⟩ (.string t554)).heap[gb537]? = some (.cells #[.int .i64 a0_0, .int .i64 a0_1, .int .i64 a0_2, .int .i64 a0_3, .slice A0_4 l0_4.length c0_4, .slice A0_5 l0_5.length c0_5, .slice A0_6 l0_6.length c0_6, .int .i64 a0_7] 31 (0, 0))) := ⟨by (with_reducible repeat (first | refine blk_drewN ?_ _ | refine blk_drew ?_ | refine blk_alloc ?_ _)); refine blk_far ?_ NB537_555.out _; (with_reducible repeat (first | refine blk_drewN ?_ _ | refine blk_drew ?_ | refine blk_alloc ?_ _)); refine blk_far ?_ NB537_555.out _; (with_reducible repeat (first | refine blk_drewN ?_ _ | refine blk_drew ?_ | refine blk_alloc ?_ _)); refine blk_far ?_ NB537_555.out _; (with_reducible repeat (first | refine blk_drewN ?_ _ | refine blk_drew ?_ | refine blk_alloc ?_ _)); refine blk_far ?_ NB537_555.out _; (with_reducible repeat (first | refine blk_drewN ?_ _ | refine blk_drew ?_ | refine blk_alloc ?_ _)); refine blk_far ?_ NB537_555.out _; (with_reducible repeat (first | refine blk_drewN ?_ _ | refine blk_drew ?_ | refine blk_alloc ?_ _)); refine blk_far ?_ NB537_555.out _; (with_reducible repeat (first | refine blk_drewN ?_ _ | refine blk_drew ?_ | refine blk_alloc ?_ _)); refine blk_far ?_ NB537_555.out _; (with_reducible repeat (first | refine blk_drewN ?_ _ | refine blk_drew ?_ | refine blk_alloc ?_ _)); refine blk_far ?_ NB537_555.out _; (with_reducible repeat (first | refine blk_drewN ?_ _ | refine blk_drew ?_ | refine blk_alloc ?_ _)); exact BK537.out⟩
       have n5_ : Aside0 (((((((((w29.setCell ⟨gb555, 0, none⟩ (.string t539)).setCell ⟨gb555, 1, none⟩ (.slice Ao32 t540.length co32)).setCell ⟨gb555, 2, none⟩ (.string t543)).setCell ⟨gb555, 3, none⟩ (.string t544)).setCell ⟨gb555, 4, none⟩ (.slice Ao33 t545.length co33)).setCell ⟨gb555, 5, none⟩ (.slice Ao34 t548.length co34)).setCell ⟨gb555, 6, none⟩ (.slice Ao35 t551.length co35)).setCell ⟨gb555, 7, none⟩ (.string t554)).heap[gb555]? = some (.cells #[.string t539, .slice Ao32 t540.length co32, .string t543, .string t544, .slice Ao33 t545.length co33, .slice Ao34 t548.length co34, .slice Ao35 t551.length co35, .string t554] 34 (0, 0))) := ⟨by (with_reducible repeat (first | refine blk_drewN ?_ _ | refine blk_drew ?_ | refine blk_alloc ?_ _)); refine blk_put (cs := #[.string t539, .slice Ao32 t540.length co32, .string t543, .string t544, .slice Ao33 t545.length co33, .slice Ao34 t548.length co34, .slice Ao35 t551.length co35, .string (⟨#[]⟩ : ByteArray)]) ?_ 7 _ rfl; (with_reducible repeat (first | refine blk_drewN ?_ _ | refine blk_drew ?_ | refine blk_alloc ?_ _)); refine blk_put (cs := #[.string t539, .slice Ao32 t540.length co32, .string t543, .string t544, .slice Ao33 t545.length co33, .slice Ao34 t548.length co34, .slice none 0 0, .string (⟨#[]⟩ : ByteArray)]) ?_ 6 _ rfl; (with_reducible repeat (first | refine blk_drewN ?_ _ | refine blk_drew ?_ | refine blk_alloc ?_ _)); refine blk_put (cs := #[.string t539, .slice Ao32 t540.length co32, .string t543, .string t544, .slice Ao33 t545.length co33, .slice none 0 0, .slice none 0 0, .string (⟨#[]⟩ : ByteArray)]) ?_ 5 _ rfl; (with_reducible repeat (first | refine blk_drewN ?_ _ | refine blk_drew ?_ | refine blk_alloc ?_ _)); refine blk_put (cs := #[.string t539, .slice Ao32 t540.length co32, .string t543, .string t544, .slice none 0 0, .slice none 0 0, .slice none 0 0, .string (⟨#[]⟩ : ByteArray)]) ?_ 4 _ rfl; (with_reducible repeat (first | refine blk_drewN ?_ _ | refine blk_drew ?_ | refine blk_alloc ?_ _)); refine blk_put (cs := #[.string t539, .slice Ao32 t540.length co32, .string t543, .string (⟨#[]⟩ : ByteArray), .slice none 0 0, .slice none 0 0, .slice none 0 0, .string (⟨#[]⟩ : ByteArray)]) ?_ 3 _ rfl; (with_reducible repeat (first | refine blk_drewN ?_ _ | refine blk_drew ?_ | refine blk_alloc ?_ _)); refine blk_put (cs := #[.string t539, .slice Ao32 t540.length co32, .string (⟨#[]⟩ : ByteArray), .string (⟨#[]⟩ : ByteArray), .slice none 0 0, .slice none 0 0, .slice none 0 0, .string (⟨#[]⟩ : ByteArray)]) ?_ 2 _ rfl; (with_reducible repeat (first | refine blk_drewN ?_ _ | refine blk_drew ?_ | refine blk_alloc ?_ _)); refine blk_put (cs := #[.string t539, .slice none 0 0, .string (⟨#[]⟩ : ByteArray), .string (⟨#[]⟩ : ByteArray), .slice none 0 0, .slice none 0 0, .slice none 0 0, .string (⟨#[]⟩ : ByteArray)]) ?_ 1 _ rfl; (with_reducible repeat (first | refine blk_drewN ?_ _ | refine blk_drew ?_ | refine blk_alloc ?_ _)); refine blk_put (cs := #[.string (⟨#[]⟩ : ByteArray), .slice none 0 0, .string (⟨#[]⟩ : ByteArray), .string (⟨#[]⟩ : ByteArray), .slice none 0 0, .slice none 0 0, .slice none 0 0, .string (⟨#[]⟩ : ByteArray)]) ?_ 0 _ rfl; (with_reducible repeat (first | refine blk_drewN ?_ _ | refine blk_drew ?_ | refine blk_alloc ?_ _)); exact BK555.out⟩
       have n6_ : Aside0 (Below w.heap.size w ((((((((w29.setCell ⟨gb555, 0, none⟩ (.string t539)).setCell ⟨gb555, 1, none⟩ (.slice Ao32 t540.length co32)).setCell ⟨gb555, 2, none⟩ (.string t543)).setCell ⟨gb555, 3, none⟩ (.string t544)).setCell ⟨gb555, 4, none⟩ (.slice Ao33 t545.length co33)).setCell ⟨gb555, 5, none⟩ (.slice Ao34 t548.length co34)).setCell ⟨gb555, 6, none⟩ (.slice Ao35 t551.length co35)).setCell ⟨gb555, 7, none⟩ (.string t554))) := ⟨by repeat (first | (with_reducible first | exact HB.out | apply below_alloc | apply pw_below_drewN | apply below_drew1 | refine below_set ?_ GE537.out | refine below_set ?_ GE555.out) | exact HB.out)⟩
       (try clear HO542)
       (try clear HO547)
       (try clear HO550)
       (try clear HO553)
       (try clear BK537)
       (try clear BK555)
       (try clear HB)
       generalize ((((((((w29.setCell ⟨gb555, 0, none⟩ (.string t539)).setCell ⟨gb555, 1, none⟩ (.slice Ao32 t540.length co32)).setCell ⟨gb555, 2, none⟩ (.string t543)).setCell ⟨gb555, 3, none⟩ (.string t544)).setCell ⟨gb555, 4, none⟩ (.slice Ao33 t545.length co33)).setCell ⟨gb555, 5, none⟩ (.slice Ao34 t548.length co34)).setCell ⟨gb555, 6, none⟩ (.slice Ao35 t551.length co35)).setCell ⟨gb555, 7, none⟩ (.string t554)) = w36 at n0_ n1_ n2_ n3_ n4_ n5_ n6_ ⊢
       have HO542 := n0_
       have HO547 := n1_
       have HO550 := n2_
       have HO553 := n3_
       have BK537 := n4_
       have BK555 := n5_
       have HB := n6_
       clear n0_ n1_ n2_ n3_ n4_ n5_ n6_
       (try (rw [drewN_self w36]; generalize hq_ : World.drewN w36 _ = w36; have n0_ : Aside0 (Kd.R Kd.string 9 w36 w.heap.size (fun k_ => some k_ ≠ (.slice Ao33 t545.length co33 : Value).ownBlock ∧ some k_ ≠ (.slice Ao35 t551.length co35 : Value).ownBlock) (.slice Ao32 t540.length co32) t540) := ⟨by rw [← hq_]; exact (by (with_reducible repeat (first | apply Kd.R_alloc | apply Kd.R_drewN | apply Kd.R_drew)); exact HO542.out)⟩; have n1_ : Aside0 (Kd.R Kd.string 9 w36 w.heap.size (fun k_ => some k_ ≠ (.slice Ao32 t540.length co32 : Value).ownBlock ∧ some k_ ≠ (.slice Ao35 t551.length co35 : Value).ownBlock) (.slice Ao33 t545.length co33) t545) := ⟨by rw [← hq_]; exact (by (with_reducible repeat (first | apply Kd.R_alloc | apply Kd.R_drewN | apply Kd.R_drew)); exact HO547.out)⟩; have n2_ : Aside0 (Kd.S k62 62 w36 w.heap.size (fun k_ => some k_ ≠ (.slice Ao32 t540.length co32 : Value).ownBlock ∧ some k_ ≠ (.slice Ao33 t545.length co33 : Value).ownBlock ∧ some k_ ≠ (.slice Ao35 t551.length co35 : Value).ownBlock) (.slice Ao34 t548.length co34) t548) := ⟨by rw [← hq_]; exact (by (with_reducible repeat (first | apply Kd.S_alloc | apply Kd.S_drewN | apply Kd.S_drew)); exact HO550.out)⟩; have n3_ : Aside0 (Kd.R Kd.string 9 w36 w.heap.size (fun k_ => some k_ ≠ (.slice Ao32 t540.length co32 : Value).ownBlock ∧ some k_ ≠ (.slice Ao33 t545.length co33 : Value).ownBlock) (.slice Ao35 t551.length co35) t551) := ⟨by rw [← hq_]; exact (by (with_reducible repeat (first | apply Kd.R_alloc | apply Kd.R_drewN | apply Kd.R_drew)); exact HO553.out)⟩; have n4_ : Aside0 (w36.heap[gb537]? = some (.cells #[.int .i64 a0_0, .int .i64 a0_1, .int .i64 a0_2, .int .i64 a0_3, .slice A0_4 l0_4.length c0_4, .slice A0_5 l0_5.length c0_5, .slice A0_6 l0_6.length c0_6, .int .i64 a0_7] 31 (0, 0))) := ⟨by rw [← hq_]; exact (by (with_reducible repeat (first | refine blk_drewN ?_ _ | refine blk_drew ?_ | refine blk_alloc ?_ _)); exact BK537.out)⟩; have n5_ : Aside0 (w36.heap[gb555]? = some (.cells #[.string t539, .slice Ao32 t540.length co32, .string t543, .string t544, .slice Ao33 t545.length co33, .slice Ao34 t548.length co34, .slice Ao35 t551.length co35, .string t554] 34 (0, 0))) := ⟨by rw [← hq_]; exact (by (with_reducible repeat (first | refine blk_drewN ?_ _ | refine blk_drew ?_ | refine blk_alloc ?_ _)); exact BK555.out)⟩; have n6_ : Aside0 (Below w.heap.size w w36) := ⟨by rw [← hq_]; exact (by repeat (first | (with_reducible first | exact HB.out | apply below_alloc | apply pw_below_drewN | apply below_drew1 | refine below_set ?_ GE537.out | refine below_set ?_ GE555.out) | exact HB.out))⟩; clear HO542 HO547 HO550 HO553 BK537 BK555 HB hq_; have HO542 := n0_; have HO547 := n1_; have HO550 := n2_; have HO553 := n3_; have BK537 := n4_; have BK555 := n5_; have HB := n6_; clear n0_ n1_ n2_ n3_ n4_ n5_ n6_))
       have n0_ := Aside0.mk (Kd.R_drew HO542.out)
       have n1_ := Aside0.mk (Kd.R_drew HO547.out)
       have n2_ := Aside0.mk (Kd.S_drew HO550.out)
       have n3_ := Aside0.mk (Kd.R_drew HO553.out)
       have n4_ := Aside0.mk (blk_drew BK537.out)
       have n5_ := Aside0.mk (blk_drew BK555.out)
       have n6_ := Aside0.mk (below_drew1 HB.out)
       clear HO542
       clear HO547
       clear HO550
       clear HO553
       clear BK537
       clear BK555
       clear HB
       have HO542 := n0_
       have HO547 := n1_
       have HO550 := n2_
       have HO553 := n3_
       have BK537 := n4_
       have BK555 := n5_
       have HB := n6_
       clear n0_ n1_ n2_ n3_ n4_ n5_ n6_
       refine start_ (n := 49) (S := fun w' => w'.cell? ⟨gb555, 0, none⟩ = some (.string t539) ∧ w'.cell? ⟨gb555, 1, none⟩ = some (.slice Ao32 t540.length co32) ∧ w'.cell? ⟨gb555, 2, none⟩ = some (.string t543) ∧ w'.cell? ⟨gb555, 3, none⟩ = some (.string t544) ∧ w'.cell? ⟨gb555, 4, none⟩ = some (.slice Ao33 t545.length co33) ∧ w'.cell? ⟨gb555, 5, none⟩ = some (.slice Ao34 t548.length co34) ∧ w'.cell? ⟨gb555, 6, none⟩ = some (.slice Ao35 t551.length co35) ∧ w'.cell? ⟨gb555, 7, none⟩ = some (.string t554)) (ds := []) #[false, false, false, false, false, false, false, false, false, false, false, false, false, false, false, false, false, false, false, false, false, false, false, false, false, false, false, false, false, false, false, false, false, false, false, false, false, false, false, false, false, false, false, false, false, false, false, false, false] (by kernel_rfl) rfl rfl ⟨(blk_cell BK555.out 0).trans rfl, (blk_cell BK555.out 1).trans rfl, (blk_cell BK555.out 2).trans rfl, (blk_cell BK555.out 3).trans rfl, (blk_cell BK555.out 4).trans rfl, (blk_cell BK555.out 5).trans rfl, (blk_cell BK555.out 6).trans rfl, (blk_cell BK555.out 7).trans rfl⟩ (fun hHeld => ?_); refine with_tabW isoglosslaw08_RenderTells.tab4 isoglosslaw08_RenderTells.bits4 (fun HT_ HW_ => ?_)
       generalize w36.drew = w37 at HO542 HO547 HO550 HO553 BK537 BK555 HB hHeld ⊢
       refine pure_ (i := 0) (N := some 14) (v := ?_) (a' := ?_) #[true, false, false, false, false, false, false, false, false, false, false, false, false, false, false, false, false, false, false, false, false, false, false, false, false, false, false, false, false, false, false, false, false, false, false, false, false, false, false, false, false, false, false, false, false, false, false, false, false] rfl rfl (any_of HT_.out (by kernel_rfl)) (fun _ _ _ h => h) (Or.inl ⟨by rfl, ?_⟩) ?_ ?_
       rotate_left
       ·intro w'
        go_simp
        with_reducible rfl
       rotate_left
       ·simp only [Act.put, List.setIfInBounds_toArray, List.set_cons_zero, List.set_cons_succ, i64_w, i32_w]
        rfl
       refine pure_ (i := 1) (N := some 15) (v := ?_) (a' := ?_) #[true, true, false, false, false, false, false, false, false, false, false, false, false, false, false, false, false, false, false, false, false, false, false, false, false, false, false, false, false, false, false, false, false, false, false, false, false, false, false, false, false, false, false, false, false, false, false, false, false] rfl rfl (any_of HT_.out (by kernel_rfl)) (fun _ _ _ h => h) (Or.inl ⟨by rfl, ?_⟩) ?_ ?_
       rotate_left
       ·intro w'
        go_simp
        with_reducible rfl
       rotate_left
       ·simp only [Act.put, List.setIfInBounds_toArray, List.set_cons_zero, List.set_cons_succ, i64_w, i32_w]
        rfl
       refine take_ (i := 2) (N := some 16) (v := ?_) (a' := ?_) #[true, true, true, false, false, false, false, false, false, false, false, false, false, false, false, false, false, false, false, false, false, false, false, false, false, false, false, false, false, false, false, false, false, false, false, false, false, false, false, false, false, false, false, false, false, false, false, false, false] rfl rfl (take_ofW HT_.out HW_.out (by kernel_rfl)) (fun _ _ _ h => h) (Or.inl ⟨by rfl, ?_⟩) hHeld ?_ ?_
       rotate_left
       ·rintro w' ⟨s0, s1, s2, s3, s4, s5, s6, s7⟩
        go_simp
        with_reducible rfl
       rotate_left
       ·simp only [Act.put, List.setIfInBounds_toArray, List.set_cons_zero, List.set_cons_succ, i64_w, i32_w]
        rfl
       refine take_ (i := 4) (N := some 18) (v := ?_) (a' := ?_) #[true, true, true, false, true, false, false, false, false, false, false, false, false, false, false, false, false, false, false, false, false, false, false, false, false, false, false, false, false, false, false, false, false, false, false, false, false, false, false, false, false, false, false, false, false, false, false, false, false] rfl rfl (take_ofW HT_.out HW_.out (by kernel_rfl)) (fun _ _ _ h => h) (Or.inl ⟨by rfl, ?_⟩) hHeld ?_ ?_
       rotate_left
       ·rintro w' ⟨s0, s1, s2, s3, s4, s5, s6, s7⟩
        go_simp
        with_reducible rfl
       rotate_left
       ·simp only [Act.put, List.setIfInBounds_toArray, List.set_cons_zero, List.set_cons_succ, i64_w, i32_w]
        rfl
       refine one_ (i := 3) (N := some 17) #[true, true, true, true, true, false, false, false, false, false, false, false, false, false, false, false, false, false, false, false, false, false, false, false, false, false, false, false, false, false, false, false, false, false, false, false, false, false, false, false, false, false, false, false, false, false, false, false, false] rfl rfl (one_of HT_.out (by kernel_rfl)) (by decide) (fun K hK => ?_)
       refine goes_ Try.func20 (by kernel_rfl) rfl #[.agg #[.string t539, .slice Ao32 t540.length co32, .string t543, .string t544, .slice Ao33 t545.length co33, .slice Ao34 t548.length co34, .slice Ao35 t551.length co35, .string t554]] (by rfl) rfl rfl (by (try simp only [List.map_toArray, List.map_cons, List.map_nil]); first | done | rfl | (simp only [List.length_drop, List.length_take]; rfl)) ?_
       with_reducible refine (render_Lower.calls t539 _ _ t540 t543 t544 _ _ t545 _ _ t548 _ _ t551 t554 t557 _ ?side1 ?side2 ?side3 ?side4 ?side5 ?side6 ?side7 ?side8 A8.out).mono ?_
       (case side1 => repeat (first | exact (Kd.R_reads' HO542.out).2.2 | (with_reducible refine Kd.C_alloc ?_ _) | (with_reducible refine Kd.C_drewN ?_ _) | (with_reducible refine Kd.C_drew ?_)))
       (case side2 => exact (Kd.R_reads' HO542.out).2.1)
       (case side3 => repeat (first | exact (Kd.R_reads' HO547.out).2.2 | (with_reducible refine Kd.C_alloc ?_ _) | (with_reducible refine Kd.C_drewN ?_ _) | (with_reducible refine Kd.C_drew ?_)))
       (case side4 => exact (Kd.R_reads' HO547.out).2.1)
       (case side5 => repeat (first | exact (Kd.S_reads' HO550.out).2.2 | (with_reducible refine Kd.C_alloc ?_ _) | (with_reducible refine Kd.C_drewN ?_ _) | (with_reducible refine Kd.C_drew ?_)))
       (case side6 => exact (Kd.S_reads' HO550.out).2.1)
       (case side7 => repeat (first | exact (Kd.R_reads' HO553.out).2.2 | (with_reducible refine Kd.C_alloc ?_ _) | (with_reducible refine Kd.C_drewN ?_ _) | (with_reducible refine Kd.C_drew ?_)))
       (case side8 => exact (Kd.R_reads' HO553.out).2.1)
       rintro e w38 ⟨rfl, hb⟩
       refine ⟨_, rfl, ?_⟩
       have n0_ := Aside0.mk (Kd.R_below (by (with_reducible repeat (first | apply Kd.R_alloc | apply Kd.R_drewN | apply Kd.R_drew)); exact HO542.out) hb)
       have n1_ := Aside0.mk (Kd.R_below (by (with_reducible repeat (first | apply Kd.R_alloc | apply Kd.R_drewN | apply Kd.R_drew)); exact HO547.out) hb)
       have n2_ := Aside0.mk (Kd.S_below (by (with_reducible repeat (first | apply Kd.S_alloc | apply Kd.S_drewN | apply Kd.S_drew)); exact HO550.out) hb)
       have n3_ := Aside0.mk (Kd.R_below (by (with_reducible repeat (first | apply Kd.R_alloc | apply Kd.R_drewN | apply Kd.R_drew)); exact HO553.out) hb)
       have n4_ := Aside0.mk (blk_below (g := gb537) (o := .cells #[.int .i64 a0_0, .int .i64 a0_1, .int .i64 a0_2, .int .i64 a0_3, .slice A0_4 l0_4.length c0_4, .slice A0_5 l0_5.length c0_5, .slice A0_6 l0_6.length c0_6, .int .i64 a0_7] 31 (0, 0)) (by (with_reducible repeat (first | refine blk_drewN ?_ _ | refine blk_drew ?_ | refine blk_alloc ?_ _)); exact BK537.out) hb)
       have n5_ := Aside0.mk (blk_below (g := gb555) (o := .cells #[.string t539, .slice Ao32 t540.length co32, .string t543, .string t544, .slice Ao33 t545.length co33, .slice Ao34 t548.length co34, .slice Ao35 t551.length co35, .string t554] 34 (0, 0)) (by (with_reducible repeat (first | refine blk_drewN ?_ _ | refine blk_drew ?_ | refine blk_alloc ?_ _)); exact BK555.out) hb)
       have n6_ := Aside0.mk (below_step (by repeat (first | (with_reducible first | exact HB.out | apply below_alloc | apply pw_below_drewN | apply below_drew1 | refine below_set ?_ GE537.out | refine below_set ?_ GE555.out) | exact HB.out)) hb)
       clear HO542
       clear HO547
       clear HO550
       clear HO553
       clear BK537
       clear BK555
       clear HB
       have HO542 := n0_
       have HO547 := n1_
       have HO550 := n2_
       have HO553 := n3_
       have BK537 := n4_
       have BK555 := n5_
       have HB := n6_
       clear n0_ n1_ n2_ n3_ n4_ n5_ n6_
       (try clear hb)
       (try clear hb2)
       (try clear hk)
       (try clear hi)
       refine hK.out _ _ ⟨(blk_cell BK555.out 0).trans rfl, (blk_cell BK555.out 1).trans rfl, (blk_cell BK555.out 2).trans rfl, (blk_cell BK555.out 3).trans rfl, (blk_cell BK555.out 4).trans rfl, (blk_cell BK555.out 5).trans rfl, (blk_cell BK555.out 6).trans rfl, (blk_cell BK555.out 7).trans rfl⟩ (fun hHeld => ?_)
       clear hK K
       refine norm_ (a' := ?_) ?_ ?_
       rotate_left
       ·show Act.put _ (some 17) _ = _
        simp only [Act.put, List.setIfInBounds_toArray, List.set_cons_zero, List.set_cons_succ, i64_w, i32_w]
        rfl
       refine one_ (i := 5) (N := some 19) #[true, true, true, true, true, true, false, false, false, false, false, false, false, false, false, false, false, false, false, false, false, false, false, false, false, false, false, false, false, false, false, false, false, false, false, false, false, false, false, false, false, false, false, false, false, false, false, false, false] rfl rfl (one_of HT_.out (by kernel_rfl)) (by decide) (fun K hK => ?_)
       refine goes_ Try.func22 (by kernel_rfl) rfl #[.agg #[.string t539, .slice Ao32 t540.length co32, .string t543, .string t544, .slice Ao33 t545.length co33, .slice Ao34 t548.length co34, .slice Ao35 t551.length co35, .string t554]] (by rfl) rfl rfl (by (try simp only [List.map_toArray, List.map_cons, List.map_nil]); first | done | rfl | (simp only [List.length_drop, List.length_take]; rfl)) ?_
       with_reducible refine (isoglossref06_Subtags.calls k t539 _ _ t540 t543 t544 _ _ t545 _ _ t548 _ _ t551 t554 t558 _ ?side1 ?side2 ?side3 ?side4 ?side5 ?side6 ?side7 ?side8 A9.out).mono ?_
       (case side1 => repeat (first | exact (Kd.R_reads' HO542.out).2.2 | (with_reducible refine Kd.C_alloc ?_ _) | (with_reducible refine Kd.C_drewN ?_ _) | (with_reducible refine Kd.C_drew ?_)))
       (case side2 => exact (Kd.R_reads' HO542.out).2.1)
       (case side3 => repeat (first | exact (Kd.R_reads' HO547.out).2.2 | (with_reducible refine Kd.C_alloc ?_ _) | (with_reducible refine Kd.C_drewN ?_ _) | (with_reducible refine Kd.C_drew ?_)))
       (case side4 => exact (Kd.R_reads' HO547.out).2.1)
       (case side5 => repeat (first | exact (Kd.S_reads' HO550.out).2.2 | (with_reducible refine Kd.C_alloc ?_ _) | (with_reducible refine Kd.C_drewN ?_ _) | (with_reducible refine Kd.C_drew ?_)))
       (case side6 => exact (Kd.S_reads' HO550.out).2.1)
       (case side7 => repeat (first | exact (Kd.R_reads' HO553.out).2.2 | (with_reducible refine Kd.C_alloc ?_ _) | (with_reducible refine Kd.C_drewN ?_ _) | (with_reducible refine Kd.C_drew ?_)))
       (case side8 => exact (Kd.R_reads' HO553.out).2.1)
       rintro e w39 ⟨v559, rfl, ho0, hb⟩
       refine ⟨_, rfl, ?_⟩
       have n0_ := Aside0.mk (Kd.R_elder' (by (with_reducible repeat (first | apply Kd.R_alloc | apply Kd.R_drewN | apply Kd.R_drew)); exact HO542.out) (Kd.R_base ho0) hb)
       have n1_ := Aside0.mk (Kd.R_elder' (by (with_reducible repeat (first | apply Kd.R_alloc | apply Kd.R_drewN | apply Kd.R_drew)); exact HO547.out) (Kd.R_base ho0) hb)
       have n2_ := Aside0.mk (Kd.S_elder' (by (with_reducible repeat (first | apply Kd.S_alloc | apply Kd.S_drewN | apply Kd.S_drew)); exact HO550.out) (Kd.R_base ho0) hb)
       have n3_ := Aside0.mk (Kd.R_elder' (by (with_reducible repeat (first | apply Kd.R_alloc | apply Kd.R_drewN | apply Kd.R_drew)); exact HO553.out) (Kd.R_base ho0) hb)
       have n4_ := Aside0.mk (Kd.R_lower (Kd.R_new' (Kd.R_new' (Kd.R_new' ho0 (Kd.R_lt (by (with_reducible repeat (first | apply Kd.R_alloc | apply Kd.R_drewN | apply Kd.R_drew)); exact HO542.out))) (Kd.R_lt (by (with_reducible repeat (first | apply Kd.R_alloc | apply Kd.R_drewN | apply Kd.R_drew)); exact HO547.out))) (Kd.R_lt (by (with_reducible repeat (first | apply Kd.R_alloc | apply Kd.R_drewN | apply Kd.R_drew)); exact HO553.out))) (below_size (by repeat (first | (with_reducible first | exact HB.out | apply below_alloc | apply pw_below_drewN | apply below_drew1 | refine below_set ?_ GE537.out | refine below_set ?_ GE555.out) | exact HB.out))))
       have n5_ := Aside0.mk (blk_below (g := gb537) (o := .cells #[.int .i64 a0_0, .int .i64 a0_1, .int .i64 a0_2, .int .i64 a0_3, .slice A0_4 l0_4.length c0_4, .slice A0_5 l0_5.length c0_5, .slice A0_6 l0_6.length c0_6, .int .i64 a0_7] 31 (0, 0)) (by (with_reducible repeat (first | refine blk_drewN ?_ _ | refine blk_drew ?_ | refine blk_alloc ?_ _)); exact BK537.out) hb)
       have n6_ := Aside0.mk (blk_below (g := gb555) (o := .cells #[.string t539, .slice Ao32 t540.length co32, .string t543, .string t544, .slice Ao33 t545.length co33, .slice Ao34 t548.length co34, .slice Ao35 t551.length co35, .string t554] 34 (0, 0)) (by (with_reducible repeat (first | refine blk_drewN ?_ _ | refine blk_drew ?_ | refine blk_alloc ?_ _)); exact BK555.out) hb)
       have n7_ := Aside0.mk (below_step (by repeat (first | (with_reducible first | exact HB.out | apply below_alloc | apply pw_below_drewN | apply below_drew1 | refine below_set ?_ GE537.out | refine below_set ?_ GE555.out) | exact HB.out)) hb)
       clear HO542
       clear HO547
       clear HO550
       clear HO553
       clear BK537
       clear BK555
       clear HB
       have HO542 := n0_
       have HO547 := n1_
       have HO550 := n2_
       have HO553 := n3_
       have HO560 := n4_
       have BK537 := n5_
       have BK555 := n6_
       have HB := n7_
       clear n0_ n1_ n2_ n3_ n4_ n5_ n6_ n7_
       (try clear hb)
       (try clear hb2)
       (try clear hk)
       (try clear hi)
       (try clear ho0)
       obtain ⟨Ao40, co40, eo40⟩ := Kd.R_slice HO560.out
       (first | subst eo40 | (injection eo40 with f1_ f2_ f3_; have f4_ := f1_.symm; have f5_ := f3_.symm; clear f1_ f2_ f3_; subst f4_; subst f5_))
       refine hK.out _ _ ⟨(blk_cell BK555.out 0).trans rfl, (blk_cell BK555.out 1).trans rfl, (blk_cell BK555.out 2).trans rfl, (blk_cell BK555.out 3).trans rfl, (blk_cell BK555.out 4).trans rfl, (blk_cell BK555.out 5).trans rfl, (blk_cell BK555.out 6).trans rfl, (blk_cell BK555.out 7).trans rfl⟩ (fun hHeld => ?_)
       clear hK K
       refine norm_ (a' := ?_) ?_ ?_
       rotate_left
       ·show Act.put _ (some 19) _ = _
        simp only [Act.put, List.setIfInBounds_toArray, List.set_cons_zero, List.set_cons_succ, i64_w, i32_w]
        rfl
       refine one_ (i := 6) (N := some 20) #[true, true, true, true, true, true, true, false, false, false, false, false, false, false, false, false, false, false, false, false, false, false, false, false, false, false, false, false, false, false, false, false, false, false, false, false, false, false, false, false, false, false, false, false, false, false, false, false, false] rfl rfl (one_of HT_.out (by kernel_rfl)) (by decide) (fun K hK => ?_)
       refine goes_ Try.func21 (by kernel_rfl) rfl #[.slice Ao40 t558.length co40] (by rfl) rfl rfl (by (try simp only [List.map_toArray, List.map_cons, List.map_nil]); first | done | rfl | (simp only [List.length_drop, List.length_take]; rfl)) ?_
       with_reducible refine (isoglossref04_Join.calls k _ _ t558 t561 _ ?side1 ?side2 A10.out).mono ?_
       (case side1 => repeat (first | exact (Kd.R_reads' HO560.out).2.2 | (with_reducible refine Kd.C_alloc ?_ _) | (with_reducible refine Kd.C_drewN ?_ _) | (with_reducible refine Kd.C_drew ?_)))
       (case side2 => exact (Kd.R_reads' HO560.out).2.1)
       rintro e w' ⟨rfl, ⟨nd, rfl⟩⟩
       refine ⟨_, rfl, ?_⟩
       refine hK.out _ _ ⟨(blk_cell BK555.out 0).trans rfl, (blk_cell BK555.out 1).trans rfl, (blk_cell BK555.out 2).trans rfl, (blk_cell BK555.out 3).trans rfl, (blk_cell BK555.out 4).trans rfl, (blk_cell BK555.out 5).trans rfl, (blk_cell BK555.out 6).trans rfl, (blk_cell BK555.out 7).trans rfl⟩ (fun hHeld => ?_)
       clear hK K
       refine norm_ (a' := ?_) ?_ ?_
       rotate_left
       ·show Act.put _ (some 20) _ = _
        simp only [Act.put, List.setIfInBounds_toArray, List.set_cons_zero, List.set_cons_succ, i64_w, i32_w]
        rfl
       refine pure_ (i := 7) (N := some 21) (v := ?_) (a' := ?_) #[true, true, true, true, true, true, true, true, false, false, false, false, false, false, false, false, false, false, false, false, false, false, false, false, false, false, false, false, false, false, false, false, false, false, false, false, false, false, false, false, false, false, false, false, false, false, false, false, false] rfl rfl (any_of HT_.out (by kernel_rfl)) (fun _ _ _ h => h) (Or.inl ⟨by rfl, ?_⟩) ?_ ?_
       rotate_left
       ·intro w'
        go_simp
        with_reducible rfl
       rotate_left
       ·simp only [Act.put, List.setIfInBounds_toArray, List.set_cons_zero, List.set_cons_succ, i64_w, i32_w]
        rfl
       refine pure_ (i := 8) (N := some 22) (v := ?_) (a' := ?_) #[true, true, true, true, true, true, true, true, true, false, false, false, false, false, false, false, false, false, false, false, false, false, false, false, false, false, false, false, false, false, false, false, false, false, false, false, false, false, false, false, false, false, false, false, false, false, false, false, false] rfl rfl (any_of HT_.out (by kernel_rfl)) (fun _ _ _ h => h) (Or.inl ⟨by rfl, ?_⟩) ?_ ?_
       rotate_left
       ·intro w'
        go_simp
        with_reducible rfl
       rotate_left
       ·simp only [Act.put, List.setIfInBounds_toArray, List.set_cons_zero, List.set_cons_succ, i64_w, i32_w]
        rfl
       refine pure_ (i := 9) (N := some 23) (v := ?_) (a' := ?_) #[true, true, true, true, true, true, true, true, true, true, false, false, false, false, false, false, false, false, false, false, false, false, false, false, false, false, false, false, false, false, false, false, false, false, false, false, false, false, false, false, false, false, false, false, false, false, false, false, false] rfl rfl (any_of HT_.out (by kernel_rfl)) (fun _ _ _ h => h) (Or.inl ⟨by rfl, ?_⟩) ?_ ?_
       rotate_left
       ·intro w'
        go_simp
        with_reducible rfl
       rotate_left
       ·simp only [Act.put, List.setIfInBounds_toArray, List.set_cons_zero, List.set_cons_succ, i64_w, i32_w]
        rfl
       refine take_ (i := 10) (N := some 24) (v := ?_) (a' := ?_) #[true, true, true, true, true, true, true, true, true, true, true, false, false, false, false, false, false, false, false, false, false, false, false, false, false, false, false, false, false, false, false, false, false, false, false, false, false, false, false, false, false, false, false, false, false, false, false, false, false] rfl rfl (take_ofW HT_.out HW_.out (by kernel_rfl)) (fun _ _ _ h => h) (Or.inl ⟨by rfl, ?_⟩) hHeld ?_ ?_
       rotate_left
       ·rintro w' ⟨s0, s1, s2, s3, s4, s5, s6, s7⟩
        go_simp
        with_reducible rfl
       rotate_left
       ·simp only [Act.put, List.setIfInBounds_toArray, List.set_cons_zero, List.set_cons_succ, i64_w, i32_w]
        rfl
       refine take_ (i := 12) (N := some 26) (v := ?_) (a' := ?_) #[true, true, true, true, true, true, true, true, true, true, true, false, true, false, false, false, false, false, false, false, false, false, false, false, false, false, false, false, false, false, false, false, false, false, false, false, false, false, false, false, false, false, false, false, false, false, false, false, false] rfl rfl (take_ofW HT_.out HW_.out (by kernel_rfl)) (fun _ _ _ h => h) (Or.inl ⟨by rfl, ?_⟩) hHeld ?_ ?_
       rotate_left
       ·rintro w' ⟨s0, s1, s2, s3, s4, s5, s6, s7⟩
        go_simp
        with_reducible rfl
       rotate_left
       ·simp only [Act.put, List.setIfInBounds_toArray, List.set_cons_zero, List.set_cons_succ, i64_w, i32_w]
        rfl
       refine one_ (i := 11) (N := some 25) #[true, true, true, true, true, true, true, true, true, true, true, true, true, false, false, false, false, false, false, false, false, false, false, false, false, false, false, false, false, false, false, false, false, false, false, false, false, false, false, false, false, false, false, false, false, false, false, false, false] rfl rfl (one_of HT_.out (by kernel_rfl)) (by decide) (fun K hK => ?_)
       refine goes_ Try.func17 (by kernel_rfl) rfl #[.agg #[.string t539, .slice Ao32 t540.length co32, .string t543, .string t544, .slice Ao33 t545.length co33, .slice Ao34 t548.length co34, .slice Ao35 t551.length co35, .string t554]] (by rfl) rfl rfl (by (try simp only [List.map_toArray, List.map_cons, List.map_nil]); first | done | rfl | (simp only [List.length_drop, List.length_take]; rfl)) ?_
       with_reducible refine (render_String.calls t539 _ _ t540 t543 t544 _ _ t545 _ _ t548 _ _ t551 t554 t562 _ ?side1 ?side2 ?side3 ?side4 ?side5 ?side6 ?side7 ?side8 A12.out).mono ?_
       (case side1 => repeat (first | exact (Kd.R_reads' HO542.out).2.2 | (with_reducible refine Kd.C_alloc ?_ _) | (with_reducible refine Kd.C_drewN ?_ _) | (with_reducible refine Kd.C_drew ?_)))
       (case side2 => exact (Kd.R_reads' HO542.out).2.1)
       (case side3 => repeat (first | exact (Kd.R_reads' HO547.out).2.2 | (with_reducible refine Kd.C_alloc ?_ _) | (with_reducible refine Kd.C_drewN ?_ _) | (with_reducible refine Kd.C_drew ?_)))
       (case side4 => exact (Kd.R_reads' HO547.out).2.1)
       (case side5 => repeat (first | exact (Kd.S_reads' HO550.out).2.2 | (with_reducible refine Kd.C_alloc ?_ _) | (with_reducible refine Kd.C_drewN ?_ _) | (with_reducible refine Kd.C_drew ?_)))
       (case side6 => exact (Kd.S_reads' HO550.out).2.1)
       (case side7 => repeat (first | exact (Kd.R_reads' HO553.out).2.2 | (with_reducible refine Kd.C_alloc ?_ _) | (with_reducible refine Kd.C_drewN ?_ _) | (with_reducible refine Kd.C_drew ?_)))
       (case side8 => exact (Kd.R_reads' HO553.out).2.1)
       rintro e w41 ⟨rfl, hb⟩
       refine ⟨_, rfl, ?_⟩
       have n0_ := Aside0.mk (Kd.R_below (by (with_reducible repeat (first | apply Kd.R_alloc | apply Kd.R_drewN | apply Kd.R_drew)); exact HO542.out) hb)
       have n1_ := Aside0.mk (Kd.R_below (by (with_reducible repeat (first | apply Kd.R_alloc | apply Kd.R_drewN | apply Kd.R_drew)); exact HO547.out) hb)
       have n2_ := Aside0.mk (Kd.S_below (by (with_reducible repeat (first | apply Kd.S_alloc | apply Kd.S_drewN | apply Kd.S_drew)); exact HO550.out) hb)
       have n3_ := Aside0.mk (Kd.R_below (by (with_reducible repeat (first | apply Kd.R_alloc | apply Kd.R_drewN | apply Kd.R_drew)); exact HO553.out) hb)
       have n4_ := Aside0.mk (Kd.R_below (by (with_reducible repeat (first | apply Kd.R_alloc | apply Kd.R_drewN | apply Kd.R_drew)); exact HO560.out) hb)
       have n5_ := Aside0.mk (blk_below (g := gb537) (o := .cells #[.int .i64 a0_0, .int .i64 a0_1, .int .i64 a0_2, .int .i64 a0_3, .slice A0_4 l0_4.length c0_4, .slice A0_5 l0_5.length c0_5, .slice A0_6 l0_6.length c0_6, .int .i64 a0_7] 31 (0, 0)) (by (with_reducible repeat (first | refine blk_drewN ?_ _ | refine blk_drew ?_ | refine blk_alloc ?_ _)); exact BK537.out) hb)
       have n6_ := Aside0.mk (blk_below (g := gb555) (o := .cells #[.string t539, .slice Ao32 t540.length co32, .string t543, .string t544, .slice Ao33 t545.length co33, .slice Ao34 t548.length co34, .slice Ao35 t551.length co35, .string t554] 34 (0, 0)) (by (with_reducible repeat (first | refine blk_drewN ?_ _ | refine blk_drew ?_ | refine blk_alloc ?_ _)); exact BK555.out) hb)
       have n7_ := Aside0.mk (below_step (by repeat (first | (with_reducible first | exact HB.out | apply below_alloc | apply pw_below_drewN | apply below_drew1 | refine below_set ?_ GE537.out | refine below_set ?_ GE555.out) | exact HB.out)) hb)
       clear HO542
       clear HO547
       clear HO550
       clear HO553
       clear HO560
       clear BK537
       clear BK555
       clear HB
       have HO542 := n0_
       have HO547 := n1_
       have HO550 := n2_
       have HO553 := n3_
       have HO560 := n4_
       have BK537 := n5_
       have BK555 := n6_
       have HB := n7_
       clear n0_ n1_ n2_ n3_ n4_ n5_ n6_ n7_
       (try clear hb)
       (try clear hb2)
       (try clear hk)
       (try clear hi)
       refine hK.out _ _ ⟨(blk_cell BK555.out 0).trans rfl, (blk_cell BK555.out 1).trans rfl, (blk_cell BK555.out 2).trans rfl, (blk_cell BK555.out 3).trans rfl, (blk_cell BK555.out 4).trans rfl, (blk_cell BK555.out 5).trans rfl, (blk_cell BK555.out 6).trans rfl, (blk_cell BK555.out 7).trans rfl⟩ (fun hHeld => ?_)
       clear hK K
       refine norm_ (a' := ?_) ?_ ?_
       rotate_left
       ·show Act.put _ (some 25) _ = _
        simp only [Act.put, List.setIfInBounds_toArray, List.set_cons_zero, List.set_cons_succ, i64_w, i32_w]
        rfl
       refine one_ (i := 13) (N := some 27) #[true, true, true, true, true, true, true, true, true, true, true, true, true, true, false, false, false, false, false, false, false, false, false, false, false, false, false, false, false, false, false, false, false, false, false, false, false, false, false, false, false, false, false, false, false, false, false, false, false] rfl rfl (one_of HT_.out (by kernel_rfl)) (by decide) (fun K hK => ?_)
       refine goes_ Try.func23 (by kernel_rfl) rfl #[.agg #[.string t539, .slice Ao32 t540.length co32, .string t543, .string t544, .slice Ao33 t545.length co33, .slice Ao34 t548.length co34, .slice Ao35 t551.length co35, .string t554]] (by rfl) rfl rfl (by (try simp only [List.map_toArray, List.map_cons, List.map_nil]); first | done | rfl | (simp only [List.length_drop, List.length_take]; rfl)) ?_
       with_reducible refine (isoglossref08_String.calls k t539 _ _ t540 t543 t544 _ _ t545 _ _ t548 _ _ t551 t554 t563 _ ?side1 ?side2 ?side3 ?side4 ?side5 ?side6 ?side7 ?side8 A13.out).mono ?_
       (case side1 => repeat (first | exact (Kd.R_reads' HO542.out).2.2 | (with_reducible refine Kd.C_alloc ?_ _) | (with_reducible refine Kd.C_drewN ?_ _) | (with_reducible refine Kd.C_drew ?_)))
       (case side2 => exact (Kd.R_reads' HO542.out).2.1)
       (case side3 => repeat (first | exact (Kd.R_reads' HO547.out).2.2 | (with_reducible refine Kd.C_alloc ?_ _) | (with_reducible refine Kd.C_drewN ?_ _) | (with_reducible refine Kd.C_drew ?_)))
       (case side4 => exact (Kd.R_reads' HO547.out).2.1)
       (case side5 => repeat (first | exact (Kd.S_reads' HO550.out).2.2 | (with_reducible refine Kd.C_alloc ?_ _) | (with_reducible refine Kd.C_drewN ?_ _) | (with_reducible refine Kd.C_drew ?_)))
       (case side6 => exact (Kd.S_reads' HO550.out).2.1)
       (case side7 => repeat (first | exact (Kd.R_reads' HO553.out).2.2 | (with_reducible refine Kd.C_alloc ?_ _) | (with_reducible refine Kd.C_drewN ?_ _) | (with_reducible refine Kd.C_drew ?_)))
       (case side8 => exact (Kd.R_reads' HO553.out).2.1)
       rintro e w42 ⟨rfl, hb⟩
       refine ⟨_, rfl, ?_⟩
       have n0_ := Aside0.mk (Kd.R_below (by (with_reducible repeat (first | apply Kd.R_alloc | apply Kd.R_drewN | apply Kd.R_drew)); exact HO542.out) hb)
       have n1_ := Aside0.mk (Kd.R_below (by (with_reducible repeat (first | apply Kd.R_alloc | apply Kd.R_drewN | apply Kd.R_drew)); exact HO547.out) hb)
       have n2_ := Aside0.mk (Kd.S_below (by (with_reducible repeat (first | apply Kd.S_alloc | apply Kd.S_drewN | apply Kd.S_drew)); exact HO550.out) hb)
       have n3_ := Aside0.mk (Kd.R_below (by (with_reducible repeat (first | apply Kd.R_alloc | apply Kd.R_drewN | apply Kd.R_drew)); exact HO553.out) hb)
       have n4_ := Aside0.mk (Kd.R_below (by (with_reducible repeat (first | apply Kd.R_alloc | apply Kd.R_drewN | apply Kd.R_drew)); exact HO560.out) hb)
       have n5_ := Aside0.mk (blk_below (g := gb537) (o := .cells #[.int .i64 a0_0, .int .i64 a0_1, .int .i64 a0_2, .int .i64 a0_3, .slice A0_4 l0_4.length c0_4, .slice A0_5 l0_5.length c0_5, .slice A0_6 l0_6.length c0_6, .int .i64 a0_7] 31 (0, 0)) (by (with_reducible repeat (first | refine blk_drewN ?_ _ | refine blk_drew ?_ | refine blk_alloc ?_ _)); exact BK537.out) hb)
       have n6_ := Aside0.mk (blk_below (g := gb555) (o := .cells #[.string t539, .slice Ao32 t540.length co32, .string t543, .string t544, .slice Ao33 t545.length co33, .slice Ao34 t548.length co34, .slice Ao35 t551.length co35, .string t554] 34 (0, 0)) (by (with_reducible repeat (first | refine blk_drewN ?_ _ | refine blk_drew ?_ | refine blk_alloc ?_ _)); exact BK555.out) hb)
       have n7_ := Aside0.mk (below_step (by repeat (first | (with_reducible first | exact HB.out | apply below_alloc | apply pw_below_drewN | apply below_drew1 | refine below_set ?_ GE537.out | refine below_set ?_ GE555.out) | exact HB.out)) hb)
       clear HO542
       clear HO547
       clear HO550
       clear HO553
       clear HO560
       clear BK537
       clear BK555
       clear HB
       have HO542 := n0_
       have HO547 := n1_
       have HO550 := n2_
       have HO553 := n3_
       have HO560 := n4_
       have BK537 := n5_
       have BK555 := n6_
       have HB := n7_
       clear n0_ n1_ n2_ n3_ n4_ n5_ n6_ n7_
       (try clear hb)
       (try clear hb2)
       (try clear hk)
       (try clear hi)
       refine hK.out _ _ ⟨(blk_cell BK555.out 0).trans rfl, (blk_cell BK555.out 1).trans rfl, (blk_cell BK555.out 2).trans rfl, (blk_cell BK555.out 3).trans rfl, (blk_cell BK555.out 4).trans rfl, (blk_cell BK555.out 5).trans rfl, (blk_cell BK555.out 6).trans rfl, (blk_cell BK555.out 7).trans rfl⟩ (fun hHeld => ?_)
       clear hK K
       refine norm_ (a' := ?_) ?_ ?_
       rotate_left
       ·show Act.put _ (some 27) _ = _
        simp only [Act.put, List.setIfInBounds_toArray, List.set_cons_zero, List.set_cons_succ, i64_w, i32_w]
        rfl
       refine pure_ (i := 14) (N := some 28) (v := ?_) (a' := ?_) #[true, true, true, true, true, true, true, true, true, true, true, true, true, true, true, false, false, false, false, false, false, false, false, false, false, false, false, false, false, false, false, false, false, false, false, false, false, false, false, false, false, false, false, false, false, false, false, false, false] rfl rfl (any_of HT_.out (by kernel_rfl)) (fun _ _ _ h => h) (Or.inl ⟨by rfl, ?_⟩) ?_ ?_
       rotate_left
       ·intro w'
        go_simp
        with_reducible rfl
       rotate_left
       ·simp only [Act.put, List.setIfInBounds_toArray, List.set_cons_zero, List.set_cons_succ, i64_w, i32_w]
        rfl
       refine pure_ (i := 15) (N := some 29) (v := ?_) (a' := ?_) #[true, true, true, true, true, true, true, true, true, true, true, true, true, true, true, true, false, false, false, false, false, false, false, false, false, false, false, false, false, false, false, false, false, false, false, false, false, false, false, false, false, false, false, false, false, false, false, false, false] rfl rfl (any_of HT_.out (by kernel_rfl)) (fun _ _ _ h => h) (Or.inl ⟨by rfl, ?_⟩) ?_ ?_
       rotate_left
       ·intro w'
        go_simp
        with_reducible rfl
       rotate_left
       ·simp only [Act.put, List.setIfInBounds_toArray, List.set_cons_zero, List.set_cons_succ, i64_w, i32_w]
        rfl
       refine pure_ (i := 16) (N := some 30) (v := ?_) (a' := ?_) #[true, true, true, true, true, true, true, true, true, true, true, true, true, true, true, true, true, false, false, false, false, false, false, false, false, false, false, false, false, false, false, false, false, false, false, false, false, false, false, false, false, false, false, false, false, false, false, false, false] rfl rfl (any_of HT_.out (by kernel_rfl)) (fun _ _ _ h => h) (Or.inl ⟨by rfl, ?_⟩) ?_ ?_
       rotate_left
       ·intro w'
        go_simp
        with_reducible rfl
       rotate_left
       ·simp only [Act.put, List.setIfInBounds_toArray, List.set_cons_zero, List.set_cons_succ, i64_w, i32_w]
        rfl
       refine pure_ (i := 17) (N := some 31) (v := ?_) (a' := ?_) #[true, true, true, true, true, true, true, true, true, true, true, true, true, true, true, true, true, true, false, false, false, false, false, false, false, false, false, false, false, false, false, false, false, false, false, false, false, false, false, false, false, false, false, false, false, false, false, false, false] rfl rfl (any_of HT_.out (by kernel_rfl)) (fun _ _ _ h => h) (Or.inl ⟨by rfl, ?_⟩) ?_ ?_
       rotate_left
       ·intro w'
        go_simp
        with_reducible rfl
       rotate_left
       ·simp only [Act.put, List.setIfInBounds_toArray, List.set_cons_zero, List.set_cons_succ, i64_w, i32_w]
        rfl
       refine pure_ (i := 19) (N := some 33) (v := ?_) (a' := ?_) #[true, true, true, true, true, true, true, true, true, true, true, true, true, true, true, true, true, true, false, true, false, false, false, false, false, false, false, false, false, false, false, false, false, false, false, false, false, false, false, false, false, false, false, false, false, false, false, false, false] rfl rfl (any_of HT_.out (by kernel_rfl)) (fun _ _ _ h => h) (Or.inl ⟨by rfl, ?_⟩) ?_ ?_
       rotate_left
       ·intro w'
        go_simp
        with_reducible rfl
       rotate_left
       ·simp only [Act.put, List.setIfInBounds_toArray, List.set_cons_zero, List.set_cons_succ, i64_w, i32_w]
        rfl
       refine one_ (i := 18) (N := some 32) #[true, true, true, true, true, true, true, true, true, true, true, true, true, true, true, true, true, true, true, true, false, false, false, false, false, false, false, false, false, false, false, false, false, false, false, false, false, false, false, false, false, false, false, false, false, false, false, false, false] rfl rfl (one_of HT_.out (by kernel_rfl)) (by decide) (fun K hK => ?_)
       refine goes_ Try.func11 (by kernel_rfl) rfl #[.string t556] (by rfl) rfl rfl (by (try simp only [List.map_toArray, List.map_cons, List.map_nil]); first | done | rfl | (simp only [List.length_drop, List.length_take]; rfl)) ?_
       with_reducible refine (render_Case.calls t556 t564 _ A15.out).mono ?_
       rintro e w43 ⟨rfl, hb⟩
       refine ⟨_, rfl, ?_⟩
       have n0_ := Aside0.mk (Kd.R_below (by (with_reducible repeat (first | apply Kd.R_alloc | apply Kd.R_drewN | apply Kd.R_drew)); exact HO542.out) hb)
       have n1_ := Aside0.mk (Kd.R_below (by (with_reducible repeat (first | apply Kd.R_alloc | apply Kd.R_drewN | apply Kd.R_drew)); exact HO547.out) hb)
       have n2_ := Aside0.mk (Kd.S_below (by (with_reducible repeat (first | apply Kd.S_alloc | apply Kd.S_drewN | apply Kd.S_drew)); exact HO550.out) hb)
       have n3_ := Aside0.mk (Kd.R_below (by (with_reducible repeat (first | apply Kd.R_alloc | apply Kd.R_drewN | apply Kd.R_drew)); exact HO553.out) hb)
       have n4_ := Aside0.mk (Kd.R_below (by (with_reducible repeat (first | apply Kd.R_alloc | apply Kd.R_drewN | apply Kd.R_drew)); exact HO560.out) hb)
       have n5_ := Aside0.mk (blk_below (g := gb537) (o := .cells #[.int .i64 a0_0, .int .i64 a0_1, .int .i64 a0_2, .int .i64 a0_3, .slice A0_4 l0_4.length c0_4, .slice A0_5 l0_5.length c0_5, .slice A0_6 l0_6.length c0_6, .int .i64 a0_7] 31 (0, 0)) (by (with_reducible repeat (first | refine blk_drewN ?_ _ | refine blk_drew ?_ | refine blk_alloc ?_ _)); exact BK537.out) hb)
       have n6_ := Aside0.mk (blk_below (g := gb555) (o := .cells #[.string t539, .slice Ao32 t540.length co32, .string t543, .string t544, .slice Ao33 t545.length co33, .slice Ao34 t548.length co34, .slice Ao35 t551.length co35, .string t554] 34 (0, 0)) (by (with_reducible repeat (first | refine blk_drewN ?_ _ | refine blk_drew ?_ | refine blk_alloc ?_ _)); exact BK555.out) hb)
       have n7_ := Aside0.mk (below_step (by repeat (first | (with_reducible first | exact HB.out | apply below_alloc | apply pw_below_drewN | apply below_drew1 | refine below_set ?_ GE537.out | refine below_set ?_ GE555.out) | exact HB.out)) hb)
       clear HO542
       clear HO547
       clear HO550
       clear HO553
       clear HO560
       clear BK537
       clear BK555
       clear HB
       have HO542 := n0_
       have HO547 := n1_
       have HO550 := n2_
       have HO553 := n3_
       have HO560 := n4_
       have BK537 := n5_
       have BK555 := n6_
       have HB := n7_
       clear n0_ n1_ n2_ n3_ n4_ n5_ n6_ n7_
       (try clear hb)
       (try clear hb2)
       (try clear hk)
       (try clear hi)
       refine hK.out _ _ ⟨(blk_cell BK555.out 0).trans rfl, (blk_cell BK555.out 1).trans rfl, (blk_cell BK555.out 2).trans rfl, (blk_cell BK555.out 3).trans rfl, (blk_cell BK555.out 4).trans rfl, (blk_cell BK555.out 5).trans rfl, (blk_cell BK555.out 6).trans rfl, (blk_cell BK555.out 7).trans rfl⟩ (fun hHeld => ?_)
       clear hK K
       refine norm_ (a' := ?_) ?_ ?_
       rotate_left
       ·show Act.put _ (some 32) _ = _
        simp only [Act.put, List.setIfInBounds_toArray, List.set_cons_zero, List.set_cons_succ, i64_w, i32_w]
        rfl
       refine one_ (i := 20) (N := some 34) #[true, true, true, true, true, true, true, true, true, true, true, true, true, true, true, true, true, true, true, true, true, false, false, false, false, false, false, false, false, false, false, false, false, false, false, false, false, false, false, false, false, false, false, false, false, false, false, false, false] rfl rfl (one_of HT_.out (by kernel_rfl)) (by decide) (fun K hK => ?_)
       refine goes_ Try.func24 (by kernel_rfl) rfl #[.string t556] (by rfl) rfl rfl (by (try simp only [List.map_toArray, List.map_cons, List.map_nil]); first | done | rfl | (simp only [List.length_drop, List.length_take]; rfl)) ?_
       with_reducible refine (isoglossref08_Case.calls k t556 t565 _ A16.out).mono ?_
       rintro e w44 ⟨rfl, hb⟩
       refine ⟨_, rfl, ?_⟩
       have n0_ := Aside0.mk (Kd.R_below (by (with_reducible repeat (first | apply Kd.R_alloc | apply Kd.R_drewN | apply Kd.R_drew)); exact HO542.out) hb)
       have n1_ := Aside0.mk (Kd.R_below (by (with_reducible repeat (first | apply Kd.R_alloc | apply Kd.R_drewN | apply Kd.R_drew)); exact HO547.out) hb)
       have n2_ := Aside0.mk (Kd.S_below (by (with_reducible repeat (first | apply Kd.S_alloc | apply Kd.S_drewN | apply Kd.S_drew)); exact HO550.out) hb)
       have n3_ := Aside0.mk (Kd.R_below (by (with_reducible repeat (first | apply Kd.R_alloc | apply Kd.R_drewN | apply Kd.R_drew)); exact HO553.out) hb)
       have n4_ := Aside0.mk (Kd.R_below (by (with_reducible repeat (first | apply Kd.R_alloc | apply Kd.R_drewN | apply Kd.R_drew)); exact HO560.out) hb)
       have n5_ := Aside0.mk (blk_below (g := gb537) (o := .cells #[.int .i64 a0_0, .int .i64 a0_1, .int .i64 a0_2, .int .i64 a0_3, .slice A0_4 l0_4.length c0_4, .slice A0_5 l0_5.length c0_5, .slice A0_6 l0_6.length c0_6, .int .i64 a0_7] 31 (0, 0)) (by (with_reducible repeat (first | refine blk_drewN ?_ _ | refine blk_drew ?_ | refine blk_alloc ?_ _)); exact BK537.out) hb)
       have n6_ := Aside0.mk (blk_below (g := gb555) (o := .cells #[.string t539, .slice Ao32 t540.length co32, .string t543, .string t544, .slice Ao33 t545.length co33, .slice Ao34 t548.length co34, .slice Ao35 t551.length co35, .string t554] 34 (0, 0)) (by (with_reducible repeat (first | refine blk_drewN ?_ _ | refine blk_drew ?_ | refine blk_alloc ?_ _)); exact BK555.out) hb)
       have n7_ := Aside0.mk (below_step (by repeat (first | (with_reducible first | exact HB.out | apply below_alloc | apply pw_below_drewN | apply below_drew1 | refine below_set ?_ GE537.out | refine below_set ?_ GE555.out) | exact HB.out)) hb)
       clear HO542
       clear HO547
       clear HO550
       clear HO553
       clear HO560
       clear BK537
       clear BK555
       clear HB
       have HO542 := n0_
       have HO547 := n1_
       have HO550 := n2_
       have HO553 := n3_
       have HO560 := n4_
       have BK537 := n5_
       have BK555 := n6_
       have HB := n7_
       clear n0_ n1_ n2_ n3_ n4_ n5_ n6_ n7_
       (try clear hb)
       (try clear hb2)
       (try clear hk)
       (try clear hi)
       refine hK.out _ _ ⟨(blk_cell BK555.out 0).trans rfl, (blk_cell BK555.out 1).trans rfl, (blk_cell BK555.out 2).trans rfl, (blk_cell BK555.out 3).trans rfl, (blk_cell BK555.out 4).trans rfl, (blk_cell BK555.out 5).trans rfl, (blk_cell BK555.out 6).trans rfl, (blk_cell BK555.out 7).trans rfl⟩ (fun hHeld => ?_)
       clear hK K
       refine norm_ (a' := ?_) ?_ ?_
       rotate_left
       ·show Act.put _ (some 34) _ = _
        simp only [Act.put, List.setIfInBounds_toArray, List.set_cons_zero, List.set_cons_succ, i64_w, i32_w]
        rfl
       refine pure_ (i := 21) (N := some 35) (v := ?_) (a' := ?_) #[true, true, true, true, true, true, true, true, true, true, true, true, true, true, true, true, true, true, true, true, true, true, false, false, false, false, false, false, false, false, false, false, false, false, false, false, false, false, false, false, false, false, false, false, false, false, false, false, false] rfl rfl (any_of HT_.out (by kernel_rfl)) (fun _ _ _ h => h) (Or.inl ⟨by rfl, ?_⟩) ?_ ?_
       rotate_left
       ·intro w'
        go_simp
        with_reducible rfl
       rotate_left
       ·simp only [Act.put, List.setIfInBounds_toArray, List.set_cons_zero, List.set_cons_succ, i64_w, i32_w]
        rfl
       refine pure_ (i := 22) (N := some 36) (v := ?_) (a' := ?_) #[true, true, true, true, true, true, true, true, true, true, true, true, true, true, true, true, true, true, true, true, true, true, true, false, false, false, false, false, false, false, false, false, false, false, false, false, false, false, false, false, false, false, false, false, false, false, false, false, false] rfl rfl (any_of HT_.out (by kernel_rfl)) (fun _ _ _ h => h) (Or.inl ⟨by rfl, ?_⟩) ?_ ?_
       rotate_left
       ·intro w'
        go_simp
        with_reducible rfl
       rotate_left
       ·simp only [Act.put, List.setIfInBounds_toArray, List.set_cons_zero, List.set_cons_succ, i64_w, i32_w]
        rfl
       refine pure_ (i := 23) (N := some 37) (v := ?_) (a' := ?_) #[true, true, true, true, true, true, true, true, true, true, true, true, true, true, true, true, true, true, true, true, true, true, true, true, false, false, false, false, false, false, false, false, false, false, false, false, false, false, false, false, false, false, false, false, false, false, false, false, false] rfl rfl (any_of HT_.out (by kernel_rfl)) (fun _ _ _ h => h) (Or.inl ⟨by rfl, ?_⟩) ?_ ?_
       rotate_left
       ·intro w'
        go_simp
        with_reducible rfl
       rotate_left
       ·simp only [Act.put, List.setIfInBounds_toArray, List.set_cons_zero, List.set_cons_succ, i64_w, i32_w]
        rfl
       refine pure_ (i := 25) (N := some 39) (v := ?_) (a' := ?_) #[true, true, true, true, true, true, true, true, true, true, true, true, true, true, true, true, true, true, true, true, true, true, true, true, false, true, false, false, false, false, false, false, false, false, false, false, false, false, false, false, false, false, false, false, false, false, false, false, false] rfl rfl (any_of HT_.out (by kernel_rfl)) (fun _ _ _ h => h) (Or.inl ⟨by rfl, ?_⟩) ?_ ?_
       rotate_left
       ·intro w'
        go_simp
        with_reducible rfl
       rotate_left
       ·simp only [Act.put, List.setIfInBounds_toArray, List.set_cons_zero, List.set_cons_succ, i64_w, i32_w]
        rfl
       refine pure_ (i := 28) (N := some 42) (v := ?_) (a' := ?_) #[true, true, true, true, true, true, true, true, true, true, true, true, true, true, true, true, true, true, true, true, true, true, true, true, false, true, false, false, true, false, false, false, false, false, false, false, false, false, false, false, false, false, false, false, false, false, false, false, false] rfl rfl (any_of HT_.out (by kernel_rfl)) (fun _ _ _ h => h) (Or.inl ⟨by rfl, ?_⟩) ?_ ?_
       rotate_left
       ·intro w'
        go_simp
        with_reducible rfl
       rotate_left
       ·simp only [Act.put, List.setIfInBounds_toArray, List.set_cons_zero, List.set_cons_succ, i64_w, i32_w]
        rfl
       refine take_ (i := 24) (N := some 38) (v := ?_) (a' := ?_) #[true, true, true, true, true, true, true, true, true, true, true, true, true, true, true, true, true, true, true, true, true, true, true, true, true, true, false, false, true, false, false, false, false, false, false, false, false, false, false, false, false, false, false, false, false, false, false, false, false] rfl rfl (take_ofW HT_.out HW_.out (by kernel_rfl)) (fun _ _ _ h => h) (Or.inl ⟨by rfl, ?_⟩) hHeld ?_ ?_
       rotate_left
       ·rintro w' ⟨s0, s1, s2, s3, s4, s5, s6, s7⟩
        go_simp
        with_reducible rfl
       rotate_left
       ·simp only [Act.put, List.setIfInBounds_toArray, List.set_cons_zero, List.set_cons_succ, i64_w, i32_w]
        rfl
       refine take_ (i := 27) (N := some 41) (v := ?_) (a' := ?_) #[true, true, true, true, true, true, true, true, true, true, true, true, true, true, true, true, true, true, true, true, true, true, true, true, true, true, false, true, true, false, false, false, false, false, false, false, false, false, false, false, false, false, false, false, false, false, false, false, false] rfl rfl (take_ofW HT_.out HW_.out (by kernel_rfl)) (fun _ _ _ h => h) (Or.inl ⟨by rfl, ?_⟩) hHeld ?_ ?_
       rotate_left
       ·rintro w' ⟨s0, s1, s2, s3, s4, s5, s6, s7⟩
        go_simp
        with_reducible rfl
       rotate_left
       ·simp only [Act.put, List.setIfInBounds_toArray, List.set_cons_zero, List.set_cons_succ, i64_w, i32_w]
        rfl
       refine one_ (i := 26) (N := some 40) #[true, true, true, true, true, true, true, true, true, true, true, true, true, true, true, true, true, true, true, true, true, true, true, true, true, true, true, true, true, false, false, false, false, false, false, false, false, false, false, false, false, false, false, false, false, false, false, false, false] rfl rfl (one_of HT_.out (by kernel_rfl)) (by decide) (fun K hK => ?_)
       refine goes_ Try.func25 (by kernel_rfl) rfl #[.agg #[.string t539, .slice Ao32 t540.length co32, .string t543, .string t544, .slice Ao33 t545.length co33, .slice Ao34 t548.length co34, .slice Ao35 t551.length co35, .string t554], .int .i64 a2] (by rfl) rfl rfl (by (try simp only [List.map_toArray, List.map_cons, List.map_nil]); first | done | rfl | (simp only [List.length_drop, List.length_take]; rfl)) ?_
       with_reducible refine (render_Short.calls k t539 _ _ t540 t543 t544 _ _ t545 _ _ t548 _ _ t551 t554 a2 t566 _ ?side1 ?side2 ?side3 ?side4 ?side5 ?side6 ?side7 ?side8 A18.out).mono ?_
       (case side1 => repeat (first | exact (Kd.R_reads' HO542.out).2.2 | (with_reducible refine Kd.C_alloc ?_ _) | (with_reducible refine Kd.C_drewN ?_ _) | (with_reducible refine Kd.C_drew ?_)))
       (case side2 => exact (Kd.R_reads' HO542.out).2.1)
       (case side3 => repeat (first | exact (Kd.R_reads' HO547.out).2.2 | (with_reducible refine Kd.C_alloc ?_ _) | (with_reducible refine Kd.C_drewN ?_ _) | (with_reducible refine Kd.C_drew ?_)))
       (case side4 => exact (Kd.R_reads' HO547.out).2.1)
       (case side5 => repeat (first | exact (Kd.S_reads' HO550.out).2.2 | (with_reducible refine Kd.C_alloc ?_ _) | (with_reducible refine Kd.C_drewN ?_ _) | (with_reducible refine Kd.C_drew ?_)))
       (case side6 => exact (Kd.S_reads' HO550.out).2.1)
       (case side7 => repeat (first | exact (Kd.R_reads' HO553.out).2.2 | (with_reducible refine Kd.C_alloc ?_ _) | (with_reducible refine Kd.C_drewN ?_ _) | (with_reducible refine Kd.C_drew ?_)))
       (case side8 => exact (Kd.R_reads' HO553.out).2.1)
       rintro e w45 ⟨rfl, hb⟩
       refine ⟨_, rfl, ?_⟩
       have n0_ := Aside0.mk (Kd.R_below (by (with_reducible repeat (first | apply Kd.R_alloc | apply Kd.R_drewN | apply Kd.R_drew)); exact HO542.out) hb)
       have n1_ := Aside0.mk (Kd.R_below (by (with_reducible repeat (first | apply Kd.R_alloc | apply Kd.R_drewN | apply Kd.R_drew)); exact HO547.out) hb)
       have n2_ := Aside0.mk (Kd.S_below (by (with_reducible repeat (first | apply Kd.S_alloc | apply Kd.S_drewN | apply Kd.S_drew)); exact HO550.out) hb)
       have n3_ := Aside0.mk (Kd.R_below (by (with_reducible repeat (first | apply Kd.R_alloc | apply Kd.R_drewN | apply Kd.R_drew)); exact HO553.out) hb)
       have n4_ := Aside0.mk (Kd.R_below (by (with_reducible repeat (first | apply Kd.R_alloc | apply Kd.R_drewN | apply Kd.R_drew)); exact HO560.out) hb)
       have n5_ := Aside0.mk (blk_below (g := gb537) (o := .cells #[.int .i64 a0_0, .int .i64 a0_1, .int .i64 a0_2, .int .i64 a0_3, .slice A0_4 l0_4.length c0_4, .slice A0_5 l0_5.length c0_5, .slice A0_6 l0_6.length c0_6, .int .i64 a0_7] 31 (0, 0)) (by (with_reducible repeat (first | refine blk_drewN ?_ _ | refine blk_drew ?_ | refine blk_alloc ?_ _)); exact BK537.out) hb)
       have n6_ := Aside0.mk (blk_below (g := gb555) (o := .cells #[.string t539, .slice Ao32 t540.length co32, .string t543, .string t544, .slice Ao33 t545.length co33, .slice Ao34 t548.length co34, .slice Ao35 t551.length co35, .string t554] 34 (0, 0)) (by (with_reducible repeat (first | refine blk_drewN ?_ _ | refine blk_drew ?_ | refine blk_alloc ?_ _)); exact BK555.out) hb)
       have n7_ := Aside0.mk (below_step (by repeat (first | (with_reducible first | exact HB.out | apply below_alloc | apply pw_below_drewN | apply below_drew1 | refine below_set ?_ GE537.out | refine below_set ?_ GE555.out) | exact HB.out)) hb)
       clear HO542
       clear HO547
       clear HO550
       clear HO553
       clear HO560
       clear BK537
       clear BK555
       clear HB
       have HO542 := n0_
       have HO547 := n1_
       have HO550 := n2_
       have HO553 := n3_
       have HO560 := n4_
       have BK537 := n5_
       have BK555 := n6_
       have HB := n7_
       clear n0_ n1_ n2_ n3_ n4_ n5_ n6_ n7_
       (try clear hb)
       (try clear hb2)
       (try clear hk)
       (try clear hi)
       refine hK.out _ _ ⟨(blk_cell BK555.out 0).trans rfl, (blk_cell BK555.out 1).trans rfl, (blk_cell BK555.out 2).trans rfl, (blk_cell BK555.out 3).trans rfl, (blk_cell BK555.out 4).trans rfl, (blk_cell BK555.out 5).trans rfl, (blk_cell BK555.out 6).trans rfl, (blk_cell BK555.out 7).trans rfl⟩ (fun hHeld => ?_)
       clear hK K
       refine norm_ (a' := ?_) ?_ ?_
       rotate_left
       ·show Act.put _ (some 40) _ = _
        simp only [Act.put, List.setIfInBounds_toArray, List.set_cons_zero, List.set_cons_succ, i64_w, i32_w]
        rfl
       refine one_ (i := 29) (N := some 43) #[true, true, true, true, true, true, true, true, true, true, true, true, true, true, true, true, true, true, true, true, true, true, true, true, true, true, true, true, true, true, false, false, false, false, false, false, false, false, false, false, false, false, false, false, false, false, false, false, false] rfl rfl (one_of HT_.out (by kernel_rfl)) (by decide) (fun K hK => ?_)
       refine goes_ Try.func26 (by kernel_rfl) rfl #[.agg #[.string t539, .slice Ao32 t540.length co32, .string t543, .string t544, .slice Ao33 t545.length co33, .slice Ao34 t548.length co34, .slice Ao35 t551.length co35, .string t554], .int .i64 a2] (by rfl) rfl rfl (by (try simp only [List.map_toArray, List.map_cons, List.map_nil]); first | done | rfl | (simp only [List.length_drop, List.length_take]; rfl)) ?_
       with_reducible refine (isoglossref08_Short.calls k t539 _ _ t540 t543 t544 _ _ t545 _ _ t548 _ _ t551 t554 a2 t567 _ ?side1 ?side2 ?side3 ?side4 ?side5 ?side6 ?side7 ?side8 A19.out).mono ?_
       (case side1 => repeat (first | exact (Kd.R_reads' HO542.out).2.2 | (with_reducible refine Kd.C_alloc ?_ _) | (with_reducible refine Kd.C_drewN ?_ _) | (with_reducible refine Kd.C_drew ?_)))
       (case side2 => exact (Kd.R_reads' HO542.out).2.1)
       (case side3 => repeat (first | exact (Kd.R_reads' HO547.out).2.2 | (with_reducible refine Kd.C_alloc ?_ _) | (with_reducible refine Kd.C_drewN ?_ _) | (with_reducible refine Kd.C_drew ?_)))
       (case side4 => exact (Kd.R_reads' HO547.out).2.1)
       (case side5 => repeat (first | exact (Kd.S_reads' HO550.out).2.2 | (with_reducible refine Kd.C_alloc ?_ _) | (with_reducible refine Kd.C_drewN ?_ _) | (with_reducible refine Kd.C_drew ?_)))
       (case side6 => exact (Kd.S_reads' HO550.out).2.1)
       (case side7 => repeat (first | exact (Kd.R_reads' HO553.out).2.2 | (with_reducible refine Kd.C_alloc ?_ _) | (with_reducible refine Kd.C_drewN ?_ _) | (with_reducible refine Kd.C_drew ?_)))
       (case side8 => exact (Kd.R_reads' HO553.out).2.1)
       rintro e w46 ⟨rfl, hb⟩
       refine ⟨_, rfl, ?_⟩
       have n0_ := Aside0.mk (Kd.R_below (by (with_reducible repeat (first | apply Kd.R_alloc | apply Kd.R_drewN | apply Kd.R_drew)); exact HO542.out) hb)
       have n1_ := Aside0.mk (Kd.R_below (by (with_reducible repeat (first | apply Kd.R_alloc | apply Kd.R_drewN | apply Kd.R_drew)); exact HO547.out) hb)
       have n2_ := Aside0.mk (Kd.S_below (by (with_reducible repeat (first | apply Kd.S_alloc | apply Kd.S_drewN | apply Kd.S_drew)); exact HO550.out) hb)
       have n3_ := Aside0.mk (Kd.R_below (by (with_reducible repeat (first | apply Kd.R_alloc | apply Kd.R_drewN | apply Kd.R_drew)); exact HO553.out) hb)
       have n4_ := Aside0.mk (Kd.R_below (by (with_reducible repeat (first | apply Kd.R_alloc | apply Kd.R_drewN | apply Kd.R_drew)); exact HO560.out) hb)
       have n5_ := Aside0.mk (blk_below (g := gb537) (o := .cells #[.int .i64 a0_0, .int .i64 a0_1, .int .i64 a0_2, .int .i64 a0_3, .slice A0_4 l0_4.length c0_4, .slice A0_5 l0_5.length c0_5, .slice A0_6 l0_6.length c0_6, .int .i64 a0_7] 31 (0, 0)) (by (with_reducible repeat (first | refine blk_drewN ?_ _ | refine blk_drew ?_ | refine blk_alloc ?_ _)); exact BK537.out) hb)
       have n6_ := Aside0.mk (blk_below (g := gb555) (o := .cells #[.string t539, .slice Ao32 t540.length co32, .string t543, .string t544, .slice Ao33 t545.length co33, .slice Ao34 t548.length co34, .slice Ao35 t551.length co35, .string t554] 34 (0, 0)) (by (with_reducible repeat (first | refine blk_drewN ?_ _ | refine blk_drew ?_ | refine blk_alloc ?_ _)); exact BK555.out) hb)
       have n7_ := Aside0.mk (below_step (by repeat (first | (with_reducible first | exact HB.out | apply below_alloc | apply pw_below_drewN | apply below_drew1 | refine below_set ?_ GE537.out | refine below_set ?_ GE555.out) | exact HB.out)) hb)
       clear HO542
       clear HO547
       clear HO550
       clear HO553
       clear HO560
       clear BK537
       clear BK555
       clear HB
       have HO542 := n0_
       have HO547 := n1_
       have HO550 := n2_
       have HO553 := n3_
       have HO560 := n4_
       have BK537 := n5_
       have BK555 := n6_
       have HB := n7_
       clear n0_ n1_ n2_ n3_ n4_ n5_ n6_ n7_
       (try clear hb)
       (try clear hb2)
       (try clear hk)
       (try clear hi)
       refine hK.out _ _ ⟨(blk_cell BK555.out 0).trans rfl, (blk_cell BK555.out 1).trans rfl, (blk_cell BK555.out 2).trans rfl, (blk_cell BK555.out 3).trans rfl, (blk_cell BK555.out 4).trans rfl, (blk_cell BK555.out 5).trans rfl, (blk_cell BK555.out 6).trans rfl, (blk_cell BK555.out 7).trans rfl⟩ (fun hHeld => ?_)
       clear hK K
       refine norm_ (a' := ?_) ?_ ?_
       rotate_left
       ·show Act.put _ (some 43) _ = _
        simp only [Act.put, List.setIfInBounds_toArray, List.set_cons_zero, List.set_cons_succ, i64_w, i32_w]
        rfl
       refine pure_ (i := 30) (N := some 44) (v := ?_) (a' := ?_) #[true, true, true, true, true, true, true, true, true, true, true, true, true, true, true, true, true, true, true, true, true, true, true, true, true, true, true, true, true, true, true, false, false, false, false, false, false, false, false, false, false, false, false, false, false, false, false, false, false] rfl rfl (any_of HT_.out (by kernel_rfl)) (fun _ _ _ h => h) (Or.inl ⟨by rfl, ?_⟩) ?_ ?_
       rotate_left
       ·intro w'
        go_simp
        with_reducible rfl
       rotate_left
       ·simp only [Act.put, List.setIfInBounds_toArray, List.set_cons_zero, List.set_cons_succ, i64_w, i32_w]
        rfl
       refine pure_ (i := 31) (N := some 45) (v := ?_) (a' := ?_) #[true, true, true, true, true, true, true, true, true, true, true, true, true, true, true, true, true, true, true, true, true, true, true, true, true, true, true, true, true, true, true, true, false, false, false, false, false, false, false, false, false, false, false, false, false, false, false, false, false] rfl rfl (any_of HT_.out (by kernel_rfl)) (fun _ _ _ h => h) (Or.inl ⟨by rfl, ?_⟩) ?_ ?_
       rotate_left
       ·intro w'
        go_simp
        with_reducible rfl
       rotate_left
       ·simp only [Act.put, List.setIfInBounds_toArray, List.set_cons_zero, List.set_cons_succ, i64_w, i32_w]
        rfl
       refine pure_ (i := 32) (N := some 46) (v := ?_) (a' := ?_) #[true, true, true, true, true, true, true, true, true, true, true, true, true, true, true, true, true, true, true, true, true, true, true, true, true, true, true, true, true, true, true, true, true, false, false, false, false, false, false, false, false, false, false, false, false, false, false, false, false] rfl rfl (any_of HT_.out (by kernel_rfl)) (fun _ _ _ h => h) (Or.inl ⟨by rfl, ?_⟩) ?_ ?_
       rotate_left
       ·intro w'
        go_simp
        with_reducible rfl
       rotate_left
       ·simp only [Act.put, List.setIfInBounds_toArray, List.set_cons_zero, List.set_cons_succ, i64_w, i32_w]
        rfl
       refine pure_ (i := 34) (N := some 48) (v := ?_) (a' := ?_) #[true, true, true, true, true, true, true, true, true, true, true, true, true, true, true, true, true, true, true, true, true, true, true, true, true, true, true, true, true, true, true, true, true, false, true, false, false, false, false, false, false, false, false, false, false, false, false, false, false] rfl rfl (any_of HT_.out (by kernel_rfl)) (fun _ _ _ h => h) (Or.inl ⟨by rfl, ?_⟩) ?_ ?_
       rotate_left
       ·intro w'
        go_simp
        with_reducible rfl
       rotate_left
       ·simp only [Act.put, List.setIfInBounds_toArray, List.set_cons_zero, List.set_cons_succ, i64_w, i32_w]
        rfl
       refine pure_ (i := 35) (N := some 49) (v := ?_) (a' := ?_) #[true, true, true, true, true, true, true, true, true, true, true, true, true, true, true, true, true, true, true, true, true, true, true, true, true, true, true, true, true, true, true, true, true, false, true, true, false, false, false, false, false, false, false, false, false, false, false, false, false] rfl rfl (any_of HT_.out (by kernel_rfl)) (fun _ _ _ h => h) (Or.inl ⟨by rfl, ?_⟩) ?_ ?_
       rotate_left
       ·intro w'
        go_simp
        with_reducible rfl
       rotate_left
       ·simp only [Act.put, List.setIfInBounds_toArray, List.set_cons_zero, List.set_cons_succ, i64_w, i32_w]
        rfl
       refine pure_ (i := 38) (N := some 52) (v := ?_) (a' := ?_) #[true, true, true, true, true, true, true, true, true, true, true, true, true, true, true, true, true, true, true, true, true, true, true, true, true, true, true, true, true, true, true, true, true, false, true, true, false, false, true, false, false, false, false, false, false, false, false, false, false] rfl rfl (any_of HT_.out (by kernel_rfl)) (fun _ _ _ h => h) (Or.inl ⟨by rfl, ?_⟩) ?_ ?_
       rotate_left
       ·intro w'
        go_simp
        with_reducible rfl
       rotate_left
       ·simp only [Act.put, List.setIfInBounds_toArray, List.set_cons_zero, List.set_cons_succ, i64_w, i32_w]
        rfl
       refine pure_ (i := 39) (N := some 53) (v := ?_) (a' := ?_) #[true, true, true, true, true, true, true, true, true, true, true, true, true, true, true, true, true, true, true, true, true, true, true, true, true, true, true, true, true, true, true, true, true, false, true, true, false, false, true, true, false, false, false, false, false, false, false, false, false] rfl rfl (any_of HT_.out (by kernel_rfl)) (fun _ _ _ h => h) (Or.inl ⟨by rfl, ?_⟩) ?_ ?_
       rotate_left
       ·intro w'
        go_simp
        with_reducible rfl
       rotate_left
       ·simp only [Act.put, List.setIfInBounds_toArray, List.set_cons_zero, List.set_cons_succ, i64_w, i32_w]
        rfl
       refine take_ (i := 33) (N := some 47) (v := ?_) (a' := ?_) #[true, true, true, true, true, true, true, true, true, true, true, true, true, true, true, true, true, true, true, true, true, true, true, true, true, true, true, true, true, true, true, true, true, true, true, true, false, false, true, true, false, false, false, false, false, false, false, false, false] rfl rfl (take_ofW HT_.out HW_.out (by kernel_rfl)) (fun _ _ _ h => h) (Or.inl ⟨by rfl, ?_⟩) hHeld ?_ ?_
       rotate_left
       ·rintro w' ⟨s0, s1, s2, s3, s4, s5, s6, s7⟩
        go_simp
        with_reducible rfl
       rotate_left
       ·simp only [Act.put, List.setIfInBounds_toArray, List.set_cons_zero, List.set_cons_succ, i64_w, i32_w]
        rfl
       refine take_ (i := 37) (N := some 51) (v := ?_) (a' := ?_) #[true, true, true, true, true, true, true, true, true, true, true, true, true, true, true, true, true, true, true, true, true, true, true, true, true, true, true, true, true, true, true, true, true, true, true, true, false, true, true, true, false, false, false, false, false, false, false, false, false] rfl rfl (take_ofW HT_.out HW_.out (by kernel_rfl)) (fun _ _ _ h => h) (Or.inl ⟨by rfl, ?_⟩) hHeld ?_ ?_
       rotate_left
       ·rintro w' ⟨s0, s1, s2, s3, s4, s5, s6, s7⟩
        go_simp
        with_reducible rfl
       rotate_left
       ·simp only [Act.put, List.setIfInBounds_toArray, List.set_cons_zero, List.set_cons_succ, i64_w, i32_w]
        rfl
       refine one_ (i := 36) (N := some 50) #[true, true, true, true, true, true, true, true, true, true, true, true, true, true, true, true, true, true, true, true, true, true, true, true, true, true, true, true, true, true, true, true, true, true, true, true, true, true, true, true, false, false, false, false, false, false, false, false, false] rfl rfl (one_of HT_.out (by kernel_rfl)) (by decide) (fun K hK => ?_)
       refine goes_ Try.func25 (by kernel_rfl) rfl #[.agg #[.string t539, .slice Ao32 t540.length co32, .string t543, .string t544, .slice Ao33 t545.length co33, .slice Ao34 t548.length co34, .slice Ao35 t551.length co35, .string t554], .int .i64 (Go.bits .and .i64 a2 63)] (by rfl) rfl rfl (by (try simp only [List.map_toArray, List.map_cons, List.map_nil]); first | done | rfl | (simp only [List.length_drop, List.length_take]; rfl)) ?_
       with_reducible refine (render_Short.calls k t539 _ _ t540 t543 t544 _ _ t545 _ _ t548 _ _ t551 t554 (Go.bits .and .i64 a2 63) t568 _ ?side1 ?side2 ?side3 ?side4 ?side5 ?side6 ?side7 ?side8 A21.out).mono ?_
       (case side1 => repeat (first | exact (Kd.R_reads' HO542.out).2.2 | (with_reducible refine Kd.C_alloc ?_ _) | (with_reducible refine Kd.C_drewN ?_ _) | (with_reducible refine Kd.C_drew ?_)))
       (case side2 => exact (Kd.R_reads' HO542.out).2.1)
       (case side3 => repeat (first | exact (Kd.R_reads' HO547.out).2.2 | (with_reducible refine Kd.C_alloc ?_ _) | (with_reducible refine Kd.C_drewN ?_ _) | (with_reducible refine Kd.C_drew ?_)))
       (case side4 => exact (Kd.R_reads' HO547.out).2.1)
       (case side5 => repeat (first | exact (Kd.S_reads' HO550.out).2.2 | (with_reducible refine Kd.C_alloc ?_ _) | (with_reducible refine Kd.C_drewN ?_ _) | (with_reducible refine Kd.C_drew ?_)))
       (case side6 => exact (Kd.S_reads' HO550.out).2.1)
       (case side7 => repeat (first | exact (Kd.R_reads' HO553.out).2.2 | (with_reducible refine Kd.C_alloc ?_ _) | (with_reducible refine Kd.C_drewN ?_ _) | (with_reducible refine Kd.C_drew ?_)))
       (case side8 => exact (Kd.R_reads' HO553.out).2.1)
       rintro e w47 ⟨rfl, hb⟩
       refine ⟨_, rfl, ?_⟩
       have n0_ := Aside0.mk (Kd.R_below (by (with_reducible repeat (first | apply Kd.R_alloc | apply Kd.R_drewN | apply Kd.R_drew)); exact HO542.out) hb)
       have n1_ := Aside0.mk (Kd.R_below (by (with_reducible repeat (first | apply Kd.R_alloc | apply Kd.R_drewN | apply Kd.R_drew)); exact HO547.out) hb)
       have n2_ := Aside0.mk (Kd.S_below (by (with_reducible repeat (first | apply Kd.S_alloc | apply Kd.S_drewN | apply Kd.S_drew)); exact HO550.out) hb)
       have n3_ := Aside0.mk (Kd.R_below (by (with_reducible repeat (first | apply Kd.R_alloc | apply Kd.R_drewN | apply Kd.R_drew)); exact HO553.out) hb)
       have n4_ := Aside0.mk (Kd.R_below (by (with_reducible repeat (first | apply Kd.R_alloc | apply Kd.R_drewN | apply Kd.R_drew)); exact HO560.out) hb)
       have n5_ := Aside0.mk (blk_below (g := gb537) (o := .cells #[.int .i64 a0_0, .int .i64 a0_1, .int .i64 a0_2, .int .i64 a0_3, .slice A0_4 l0_4.length c0_4, .slice A0_5 l0_5.length c0_5, .slice A0_6 l0_6.length c0_6, .int .i64 a0_7] 31 (0, 0)) (by (with_reducible repeat (first | refine blk_drewN ?_ _ | refine blk_drew ?_ | refine blk_alloc ?_ _)); exact BK537.out) hb)
       have n6_ := Aside0.mk (blk_below (g := gb555) (o := .cells #[.string t539, .slice Ao32 t540.length co32, .string t543, .string t544, .slice Ao33 t545.length co33, .slice Ao34 t548.length co34, .slice Ao35 t551.length co35, .string t554] 34 (0, 0)) (by (with_reducible repeat (first | refine blk_drewN ?_ _ | refine blk_drew ?_ | refine blk_alloc ?_ _)); exact BK555.out) hb)
       have n7_ := Aside0.mk (below_step (by repeat (first | (with_reducible first | exact HB.out | apply below_alloc | apply pw_below_drewN | apply below_drew1 | refine below_set ?_ GE537.out | refine below_set ?_ GE555.out) | exact HB.out)) hb)
       clear HO542
       clear HO547
       clear HO550
       clear HO553
       clear HO560
       clear BK537
       clear BK555
       clear HB
       have HO542 := n0_
       have HO547 := n1_
       have HO550 := n2_
       have HO553 := n3_
       have HO560 := n4_
       have BK537 := n5_
       have BK555 := n6_
       have HB := n7_
       clear n0_ n1_ n2_ n3_ n4_ n5_ n6_ n7_
       (try clear hb)
       (try clear hb2)
       (try clear hk)
       (try clear hi)
       refine hK.out _ _ ⟨(blk_cell BK555.out 0).trans rfl, (blk_cell BK555.out 1).trans rfl, (blk_cell BK555.out 2).trans rfl, (blk_cell BK555.out 3).trans rfl, (blk_cell BK555.out 4).trans rfl, (blk_cell BK555.out 5).trans rfl, (blk_cell BK555.out 6).trans rfl, (blk_cell BK555.out 7).trans rfl⟩ (fun hHeld => ?_)
       clear hK K
       refine norm_ (a' := ?_) ?_ ?_
       rotate_left
       ·show Act.put _ (some 50) _ = _
        simp only [Act.put, List.setIfInBounds_toArray, List.set_cons_zero, List.set_cons_succ, i64_w, i32_w]
        rfl
       refine one_ (i := 40) (N := some 54) #[true, true, true, true, true, true, true, true, true, true, true, true, true, true, true, true, true, true, true, true, true, true, true, true, true, true, true, true, true, true, true, true, true, true, true, true, true, true, true, true, true, false, false, false, false, false, false, false, false] rfl rfl (one_of HT_.out (by kernel_rfl)) (by decide) (fun K hK => ?_)
       refine goes_ Try.func26 (by kernel_rfl) rfl #[.agg #[.string t539, .slice Ao32 t540.length co32, .string t543, .string t544, .slice Ao33 t545.length co33, .slice Ao34 t548.length co34, .slice Ao35 t551.length co35, .string t554], .int .i64 (Go.bits .and .i64 a2 63)] (by rfl) rfl rfl (by (try simp only [List.map_toArray, List.map_cons, List.map_nil]); first | done | rfl | (simp only [List.length_drop, List.length_take]; rfl)) ?_
       with_reducible refine (isoglossref08_Short.calls k t539 _ _ t540 t543 t544 _ _ t545 _ _ t548 _ _ t551 t554 (Go.bits .and .i64 a2 63) t569 _ ?side1 ?side2 ?side3 ?side4 ?side5 ?side6 ?side7 ?side8 A22.out).mono ?_
       (case side1 => repeat (first | exact (Kd.R_reads' HO542.out).2.2 | (with_reducible refine Kd.C_alloc ?_ _) | (with_reducible refine Kd.C_drewN ?_ _) | (with_reducible refine Kd.C_drew ?_)))
       (case side2 => exact (Kd.R_reads' HO542.out).2.1)
       (case side3 => repeat (first | exact (Kd.R_reads' HO547.out).2.2 | (with_reducible refine Kd.C_alloc ?_ _) | (with_reducible refine Kd.C_drewN ?_ _) | (with_reducible refine Kd.C_drew ?_)))
       (case side4 => exact (Kd.R_reads' HO547.out).2.1)
       (case side5 => repeat (first | exact (Kd.S_reads' HO550.out).2.2 | (with_reducible refine Kd.C_alloc ?_ _) | (with_reducible refine Kd.C_drewN ?_ _) | (with_reducible refine Kd.C_drew ?_)))
       (case side6 => exact (Kd.S_reads' HO550.out).2.1)
       (case side7 => repeat (first | exact (Kd.R_reads' HO553.out).2.2 | (with_reducible refine Kd.C_alloc ?_ _) | (with_reducible refine Kd.C_drewN ?_ _) | (with_reducible refine Kd.C_drew ?_)))
       (case side8 => exact (Kd.R_reads' HO553.out).2.1)
       rintro e w48 ⟨rfl, hb⟩
       refine ⟨_, rfl, ?_⟩
       have n0_ := Aside0.mk (Kd.R_below (by (with_reducible repeat (first | apply Kd.R_alloc | apply Kd.R_drewN | apply Kd.R_drew)); exact HO542.out) hb)
       have n1_ := Aside0.mk (Kd.R_below (by (with_reducible repeat (first | apply Kd.R_alloc | apply Kd.R_drewN | apply Kd.R_drew)); exact HO547.out) hb)
       have n2_ := Aside0.mk (Kd.S_below (by (with_reducible repeat (first | apply Kd.S_alloc | apply Kd.S_drewN | apply Kd.S_drew)); exact HO550.out) hb)
       have n3_ := Aside0.mk (Kd.R_below (by (with_reducible repeat (first | apply Kd.R_alloc | apply Kd.R_drewN | apply Kd.R_drew)); exact HO553.out) hb)
       have n4_ := Aside0.mk (Kd.R_below (by (with_reducible repeat (first | apply Kd.R_alloc | apply Kd.R_drewN | apply Kd.R_drew)); exact HO560.out) hb)
       have n5_ := Aside0.mk (blk_below (g := gb537) (o := .cells #[.int .i64 a0_0, .int .i64 a0_1, .int .i64 a0_2, .int .i64 a0_3, .slice A0_4 l0_4.length c0_4, .slice A0_5 l0_5.length c0_5, .slice A0_6 l0_6.length c0_6, .int .i64 a0_7] 31 (0, 0)) (by (with_reducible repeat (first | refine blk_drewN ?_ _ | refine blk_drew ?_ | refine blk_alloc ?_ _)); exact BK537.out) hb)
       have n6_ := Aside0.mk (blk_below (g := gb555) (o := .cells #[.string t539, .slice Ao32 t540.length co32, .string t543, .string t544, .slice Ao33 t545.length co33, .slice Ao34 t548.length co34, .slice Ao35 t551.length co35, .string t554] 34 (0, 0)) (by (with_reducible repeat (first | refine blk_drewN ?_ _ | refine blk_drew ?_ | refine blk_alloc ?_ _)); exact BK555.out) hb)
       have n7_ := Aside0.mk (below_step (by repeat (first | (with_reducible first | exact HB.out | apply below_alloc | apply pw_below_drewN | apply below_drew1 | refine below_set ?_ GE537.out | refine below_set ?_ GE555.out) | exact HB.out)) hb)
       clear HO542
       clear HO547
       clear HO550
       clear HO553
       clear HO560
       clear BK537
       clear BK555
       clear HB
       have HO542 := n0_
       have HO547 := n1_
       have HO550 := n2_
       have HO553 := n3_
       have HO560 := n4_
       have BK537 := n5_
       have BK555 := n6_
       have HB := n7_
       clear n0_ n1_ n2_ n3_ n4_ n5_ n6_ n7_
       (try clear hb)
       (try clear hb2)
       (try clear hk)
       (try clear hi)
       refine hK.out _ _ ⟨(blk_cell BK555.out 0).trans rfl, (blk_cell BK555.out 1).trans rfl, (blk_cell BK555.out 2).trans rfl, (blk_cell BK555.out 3).trans rfl, (blk_cell BK555.out 4).trans rfl, (blk_cell BK555.out 5).trans rfl, (blk_cell BK555.out 6).trans rfl, (blk_cell BK555.out 7).trans rfl⟩ (fun hHeld => ?_)
       clear hK K
       refine norm_ (a' := ?_) ?_ ?_
       rotate_left
       ·show Act.put _ (some 54) _ = _
        simp only [Act.put, List.setIfInBounds_toArray, List.set_cons_zero, List.set_cons_succ, i64_w, i32_w]
        rfl
       refine pure_ (i := 41) (N := some 55) (v := ?_) (a' := ?_) #[true, true, true, true, true, true, true, true, true, true, true, true, true, true, true, true, true, true, true, true, true, true, true, true, true, true, true, true, true, true, true, true, true, true, true, true, true, true, true, true, true, true, false, false, false, false, false, false, false] rfl rfl (any_of HT_.out (by kernel_rfl)) (fun _ _ _ h => h) (Or.inl ⟨by rfl, ?_⟩) ?_ ?_
       rotate_left
       ·intro w'
        go_simp
        with_reducible rfl
       rotate_left
       ·simp only [Act.put, List.setIfInBounds_toArray, List.set_cons_zero, List.set_cons_succ, i64_w, i32_w]
        rfl
       refine pure_ (i := 42) (N := some 56) (v := ?_) (a' := ?_) #[true, true, true, true, true, true, true, true, true, true, true, true, true, true, true, true, true, true, true, true, true, true, true, true, true, true, true, true, true, true, true, true, true, true, true, true, true, true, true, true, true, true, true, false, false, false, false, false, false] rfl rfl (any_of HT_.out (by kernel_rfl)) (fun _ _ _ h => h) (Or.inl ⟨by rfl, ?_⟩) ?_ ?_
       rotate_left
       ·intro w'
        go_simp
        with_reducible rfl
       rotate_left
       ·simp only [Act.put, List.setIfInBounds_toArray, List.set_cons_zero, List.set_cons_succ, i64_w, i32_w]
        rfl
       refine pure_ (i := 43) (N := some 57) (v := ?_) (a' := ?_) #[true, true, true, true, true, true, true, true, true, true, true, true, true, true, true, true, true, true, true, true, true, true, true, true, true, true, true, true, true, true, true, true, true, true, true, true, true, true, true, true, true, true, true, true, false, false, false, false, false] rfl rfl (any_of HT_.out (by kernel_rfl)) (fun _ _ _ h => h) (Or.inl ⟨by rfl, ?_⟩) ?_ ?_
       rotate_left
       ·intro w'
        go_simp
        with_reducible rfl
       rotate_left
       ·simp only [Act.put, List.setIfInBounds_toArray, List.set_cons_zero, List.set_cons_succ, i64_w, i32_w]
        rfl
       refine pure_ (i := 44) (N := some 58) (v := ?_) (a' := ?_) #[true, true, true, true, true, true, true, true, true, true, true, true, true, true, true, true, true, true, true, true, true, true, true, true, true, true, true, true, true, true, true, true, true, true, true, true, true, true, true, true, true, true, true, true, true, false, false, false, false] rfl rfl (any_of HT_.out (by kernel_rfl)) (fun _ _ _ h => h) (Or.inl ⟨by rfl, ?_⟩) ?_ ?_
       rotate_left
       ·intro w'
        go_simp
        with_reducible rfl
       rotate_left
       ·simp only [Act.put, List.setIfInBounds_toArray, List.set_cons_zero, List.set_cons_succ, i64_w, i32_w]
        rfl
       refine one_ (i := 45) (N := some 59) #[true, true, true, true, true, true, true, true, true, true, true, true, true, true, true, true, true, true, true, true, true, true, true, true, true, true, true, true, true, true, true, true, true, true, true, true, true, true, true, true, true, true, true, true, true, true, false, false, false] rfl rfl (one_of HT_.out (by kernel_rfl)) (by decide) (fun K hK => ?_)
       refine goes_ Try.func17 (by kernel_rfl) rfl #[.agg #[.string (⟨#[]⟩ : ByteArray), .slice none 0 0, .string (⟨#[]⟩ : ByteArray), .string (⟨#[]⟩ : ByteArray), .slice none 0 0, .slice none 0 0, .slice none 0 0, .string (⟨#[]⟩ : ByteArray)]] (by rfl) rfl rfl (by (try simp only [List.map_toArray, List.map_cons, List.map_nil]); first | done | rfl | (simp only [List.length_drop, List.length_take]; rfl)) ?_
       refine (render_String.calls (⟨#[]⟩ : ByteArray) _ _ ([] : List ByteArray) (⟨#[]⟩ : ByteArray) (⟨#[]⟩ : ByteArray) _ _ ([] : List ByteArray) _ _ ([] : List (S62)) _ _ ([] : List ByteArray) (⟨#[]⟩ : ByteArray) t570 _ ?side1 ?side2 ?side3 ?side4 ?side5 ?side6 ?side7 ?side8 A24.out).mono ?_
       (case side1 => exact Kd.C_nil _ _)
       (case side2 => exact Nat.le_refl _)
       (case side3 => exact Kd.C_nil _ _)
       (case side4 => exact Nat.le_refl _)
       (case side5 => exact Kd.C_nil _ _)
       (case side6 => exact Nat.le_refl _)
       (case side7 => exact Kd.C_nil _ _)
       (case side8 => exact Nat.le_refl _)
       rintro e w49 ⟨rfl, hb⟩
       refine ⟨_, rfl, ?_⟩
       have n0_ := Aside0.mk (Kd.R_below (by (with_reducible repeat (first | apply Kd.R_alloc | apply Kd.R_drewN | apply Kd.R_drew)); exact HO542.out) hb)
       have n1_ := Aside0.mk (Kd.R_below (by (with_reducible repeat (first | apply Kd.R_alloc | apply Kd.R_drewN | apply Kd.R_drew)); exact HO547.out) hb)
       have n2_ := Aside0.mk (Kd.S_below (by (with_reducible repeat (first | apply Kd.S_alloc | apply Kd.S_drewN | apply Kd.S_drew)); exact HO550.out) hb)
       have n3_ := Aside0.mk (Kd.R_below (by (with_reducible repeat (first | apply Kd.R_alloc | apply Kd.R_drewN | apply Kd.R_drew)); exact HO553.out) hb)
       have n4_ := Aside0.mk (Kd.R_below (by (with_reducible repeat (first | apply Kd.R_alloc | apply Kd.R_drewN | apply Kd.R_drew)); exact HO560.out) hb)
       have n5_ := Aside0.mk (blk_below (g := gb537) (o := .cells #[.int .i64 a0_0, .int .i64 a0_1, .int .i64 a0_2, .int .i64 a0_3, .slice A0_4 l0_4.length c0_4, .slice A0_5 l0_5.length c0_5, .slice A0_6 l0_6.length c0_6, .int .i64 a0_7] 31 (0, 0)) (by (with_reducible repeat (first | refine blk_drewN ?_ _ | refine blk_drew ?_ | refine blk_alloc ?_ _)); exact BK537.out) hb)
       have n6_ := Aside0.mk (blk_below (g := gb555) (o := .cells #[.string t539, .slice Ao32 t540.length co32, .string t543, .string t544, .slice Ao33 t545.length co33, .slice Ao34 t548.length co34, .slice Ao35 t551.length co35, .string t554] 34 (0, 0)) (by (with_reducible repeat (first | refine blk_drewN ?_ _ | refine blk_drew ?_ | refine blk_alloc ?_ _)); exact BK555.out) hb)
       have n7_ := Aside0.mk (below_step (by repeat (first | (with_reducible first | exact HB.out | apply below_alloc | apply pw_below_drewN | apply below_drew1 | refine below_set ?_ GE537.out | refine below_set ?_ GE555.out) | exact HB.out)) hb)
       clear HO542
       clear HO547
       clear HO550
       clear HO553
       clear HO560
       clear BK537
       clear BK555
       clear HB
       have HO542 := n0_
       have HO547 := n1_
       have HO550 := n2_
       have HO553 := n3_
       have HO560 := n4_
       have BK537 := n5_
       have BK555 := n6_
       have HB := n7_
       clear n0_ n1_ n2_ n3_ n4_ n5_ n6_ n7_
       (try clear hb)
       (try clear hb2)
       (try clear hk)
       (try clear hi)
       refine hK.out _ _ ⟨(blk_cell BK555.out 0).trans rfl, (blk_cell BK555.out 1).trans rfl, (blk_cell BK555.out 2).trans rfl, (blk_cell BK555.out 3).trans rfl, (blk_cell BK555.out 4).trans rfl, (blk_cell BK555.out 5).trans rfl, (blk_cell BK555.out 6).trans rfl, (blk_cell BK555.out 7).trans rfl⟩ (fun hHeld => ?_)
       clear hK K
       refine norm_ (a' := ?_) ?_ ?_
       rotate_left
       ·show Act.put _ (some 59) _ = _
        simp only [Act.put, List.setIfInBounds_toArray, List.set_cons_zero, List.set_cons_succ, i64_w, i32_w]
        rfl
       refine pure_ (i := 46) (N := some 60) (v := ?_) (a' := ?_) #[true, true, true, true, true, true, true, true, true, true, true, true, true, true, true, true, true, true, true, true, true, true, true, true, true, true, true, true, true, true, true, true, true, true, true, true, true, true, true, true, true, true, true, true, true, true, true, false, false] rfl rfl (any_of HT_.out (by kernel_rfl)) (fun _ _ _ h => h) (Or.inl ⟨by rfl, ?_⟩) ?_ ?_
       rotate_left
       ·intro w'
        go_simp
        with_reducible rfl
       rotate_left
       ·simp only [Act.put, List.setIfInBounds_toArray, List.set_cons_zero, List.set_cons_succ, i64_w, i32_w]
        rfl
       refine pure_ (i := 47) (N := some 61) (v := ?_) (a' := ?_) #[true, true, true, true, true, true, true, true, true, true, true, true, true, true, true, true, true, true, true, true, true, true, true, true, true, true, true, true, true, true, true, true, true, true, true, true, true, true, true, true, true, true, true, true, true, true, true, true, false] rfl rfl (any_of HT_.out (by kernel_rfl)) (fun _ _ _ h => h) (Or.inl ⟨by rfl, ?_⟩) ?_ ?_
       rotate_left
       ·intro w'
        go_simp
        with_reducible rfl
       rotate_left
       ·simp only [Act.put, List.setIfInBounds_toArray, List.set_cons_zero, List.set_cons_succ, i64_w, i32_w]
        rfl
       refine pure_ (i := 48) (N := some 6) (v := ?_) (a' := ?_) #[true, true, true, true, true, true, true, true, true, true, true, true, true, true, true, true, true, true, true, true, true, true, true, true, true, true, true, true, true, true, true, true, true, true, true, true, true, true, true, true, true, true, true, true, true, true, true, true, true] rfl rfl (any_of HT_.out (by kernel_rfl)) (fun _ _ _ h => h) (Or.inl ⟨by rfl, ?_⟩) ?_ ?_
       rotate_left
       ·intro w'
        go_simp
        with_reducible rfl
       rotate_left
       ·simp only [Act.put, List.setIfInBounds_toArray, List.set_cons_zero, List.set_cons_succ, i64_w, i32_w]
        rfl
       refine done_ (done_of HT_.out (by kernel_rfl)) ?_
       try go_wp2
       go_ret
       exact ⟨by first | rfl | (simp [errW_none, errW_some] <;> rfl) | (simp [*, errW_none, errW_some] <;> rfl), by repeat (first | (with_reducible first | exact HB.out | apply below_alloc | apply pw_below_drewN | apply below_drew1 | refine below_set ?_ GE537.out | refine below_set ?_ GE555.out) | exact HB.out)⟩
      ·rw [if_neg c23] at H
       have c23b0 : (t568.toList == t569.toList) = false := beq_eq_false_iff_ne.mpr c23
       have c23b1 : (t568.toList != t569.toList) = true := bne_iff_ne.mpr c23
       exact absurd ((Option.some.inj H).trans HRT.out) (by decide)
     ·rw [if_neg c20] at H
      have c20b0 : (t566.toList == t567.toList) = false := beq_eq_false_iff_ne.mpr c20
      have c20b1 : (t566.toList != t567.toList) = true := bne_iff_ne.mpr c20
      exact absurd ((Option.some.inj H).trans HRT.out) (by decide)
    ·rw [if_neg c17] at H
     have c17b0 : (t564.toList == t565.toList) = false := beq_eq_false_iff_ne.mpr c17
     have c17b1 : (t564.toList != t565.toList) = true := bne_iff_ne.mpr c17
     exact absurd ((Option.some.inj H).trans HRT.out) (by decide)
   ·rw [if_neg c14] at H
    have c14b0 : (t562.toList == t563.toList) = false := beq_eq_false_iff_ne.mpr c14
    have c14b1 : (t562.toList != t563.toList) = true := bne_iff_ne.mpr c14
    exact absurd ((Option.some.inj H).trans HRT.out) (by decide)
  ·rw [if_neg c11] at H
   have c11b0 : (t557.toList == t561.toList) = false := beq_eq_false_iff_ne.mpr c11
   have c11b1 : (t557.toList != t561.toList) = true := bne_iff_ne.mpr c11
   exact absurd ((Option.some.inj H).trans HRT.out) (by decide)
 ·replace c7 := Bool.eq_false_iff.mpr c7
  subst c7
  have H1 : (some false) = some r := by rw [if_neg (show ¬ (false = true) by decide)] at H; exact H
  clear H
  have H := H1
  clear H1
  exact absurd ((Option.some.inj H).trans HRT.out) (by decide)
end Go.Proofs.Ytojglflamecnkaa.P
