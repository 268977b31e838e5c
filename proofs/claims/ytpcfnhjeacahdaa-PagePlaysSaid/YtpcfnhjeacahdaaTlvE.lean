/- The reference's Get, fail, Element, Parse, Whole. -/
import Derived.Test.YtpcfnhjeacahdaaTlvQ
namespace Go.Proofs.Ytpcfnhjeacahdaa
set_option linter.all false
open Go.RowKit

structure ESt where
  ks : List Nd
  rows : List (List Value)
  A : Option Addr
  c : Nat
  r : List UInt8
  n : Nat
  bad : Int
  place : Int

end Go.Proofs.Ytpcfnhjeacahdaa
