-- Written for this claim by the session's own run of the print, functions proved by hand put in.
import Derived.Test.YtojglflamecnkaaPx0
namespace Go.Proofs.Ytojglflamecnkaa.P
open Go.RowKit Go.Proofs.YtojglflamecnkaaW.PrintWords Go.Proofs.YtojglflamecnkaaW.PrintLast Go.Proofs.YtojglflamecnkaaW.PrintMore
attribute [local go_sem] max2_int min2_int max_two min_two max_three min_three max_four min_four   -- for this text's walks alone
set_option linter.unusedVariables false
set_option linter.unusedSimpArgs false
def some1 (s : ByteArray) : List ByteArray := if s.toList = ([] : List UInt8) then [] else [s]
def subL (a0_0 : ByteArray) (l0_1 : List ByteArray) (a0_2 : ByteArray) (a0_3 : ByteArray) (l0_4 : List ByteArray) (l0_5 : List (S62)) (l0_6 : List ByteArray) : List ByteArray :=
  ((((some1 a0_0 ++ l0_1) ++ (some1 a0_2 ++ some1 a0_3)) ++ l0_4) ++ l0_5.flatMap (fun x => x.f0 :: x.f1)) ++ (if l0_6 = [] then [] else ⟨#[120]⟩ :: l0_6)
def tag_Subtags.f (a0_0 : ByteArray) (l0_1 : List ByteArray) (a0_2 : ByteArray) (a0_3 : ByteArray) (l0_4 : List ByteArray) (l0_5 : List (S62)) (l0_6 : List ByteArray) (a0_7 : ByteArray) : Option (List ByteArray) :=
  if a0_7.toList = ([] : List UInt8) then (if (subL a0_0 l0_1 a0_2 a0_3 l0_4 l0_5 l0_6).length ≤ 100000 then some (subL a0_0 l0_1 a0_2 a0_3 l0_4 l0_5 l0_6) else none) else split_Split.f a0_7
end Go.Proofs.Ytojglflamecnkaa.P
