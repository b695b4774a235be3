-- Written for this claim by the session's own run of the print, functions proved by hand put in.
import Derived.Test.YtljadeeoaoiilaaGreatDoorPx0
namespace Go.Proofs.YtljadeeoaoiilaaGreatDoor.P
open Go.RowKit Go.Proofs.YtljadeeoaoiilaaGreatDoorW.PrintWords Go.Proofs.YtljadeeoaoiilaaGreatDoorW.PrintLast Go.Proofs.YtljadeeoaoiilaaGreatDoorW.PrintMore
attribute [local go_sem] max2_int min2_int max_two min_two max_three min_three max_four min_four   -- for this text's walks alone
set_option linter.unusedVariables false
set_option linter.unusedSimpArgs false
def some1 (s : ByteArray) : List ByteArray := if s.toList = ([] : List UInt8) then [] else [s]
def subL (ab : ByteArray) (ac : List ByteArray) (ad : ByteArray) (ae : ByteArray) (af : List ByteArray) (ag : List (S40)) (aa : List ByteArray) : List ByteArray :=
  ((((some1 ab ++ ac) ++ (some1 ad ++ some1 ae)) ++ af) ++ ag.flatMap (fun x => x.f0 :: x.f1)) ++ (if aa = [] then [] else ⟨#[120]⟩ :: aa)
def tag_Subtags.f (ab : ByteArray) (ac : List ByteArray) (ad : ByteArray) (ae : ByteArray) (af : List ByteArray) (ag : List (S40)) (aa : List ByteArray) (ah : ByteArray) : Option (List ByteArray) :=
  if ah.toList = ([] : List UInt8) then (if (subL ab ac ad ae af ag aa).length ≤ 100000 then some (subL ab ac ad ae af ag aa) else none) else split_Split.f ah
end Go.Proofs.YtljadeeoaoiilaaGreatDoor.P
