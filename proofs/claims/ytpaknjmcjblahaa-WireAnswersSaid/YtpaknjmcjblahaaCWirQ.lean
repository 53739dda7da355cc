/- Responses, as data. -/
import Derived.Test.YtpaknjmcjblahaaCWir6
namespace Go.Proofs.Ytpaknjmcjblahaa.H
open Go.RowKit Go.Proofs.Ytpaknjmcjblahaa.P Go.Proofs.YtpaknjmcjblahaaW.PrintWords Go.Proofs.YtpaknjmcjblahaaW.PrintLast Go.Proofs.YtpaknjmcjblahaaW.PrintMore
set_option linter.unusedVariables false
set_option linter.unusedSimpArgs false
structure Rs where
  e : Int
  n : Int
  ids : List Int
  rules : List Ru
  h : Bool
  fr : Int
  ad : Int
  dv : List Int
  ft : Int
  od : Int
  op : Int
def zRs : Rs := ⟨0, 0, [], [], false, 0, 0, [], 0, 0, 0⟩
def rsVals (v2 v3 v7 : Value) (r : Rs) : List Value := [.int .i64 r.e, .int .i64 r.n, v2, v3, .bool r.h, .int .i64 r.fr, .int .u32 r.ad, v7, .int .i64 r.ft, .int .i64 r.od, .int .i64 r.op]
def outR (x : Ru) : Bool := !allIn 4294967295 (numsR x)
def formedB (r : Rs) : Bool :=
  decide ((r.ids.length : Int) ≤ 100) && (decide ((r.rules.length : Int) ≤ 100) && (decide ((r.dv.length : Int) ≤ 100) && (allIn 65535 [r.e] && (allIn 4294967295 [r.n] && (allIn 4294967295 r.ids && (allIn 255 [r.fr, r.ft, r.od, r.op] && (allIn 255 r.dv && !r.rules.any outR)))))))
end Go.Proofs.Ytpaknjmcjblahaa.H
