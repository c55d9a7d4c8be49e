/- The statements on layer 18: arguments that are short; what all functions answer. -/
import Derived.Test.YtpggiabnhodjpaaDoorT18c
set_option linter.unusedSimpArgs false
set_option linter.unusedVariables false
set_option linter.deprecated false
namespace Go.Proofs.YtpggiabnhodjpaaDoor
open Go Go.Ax
set_option maxRecDepth 100000
set_option maxHeartbeats 4000000

structure In18 (a dv : List (List RD)) (w : List RD) : Prop where
  la : a.length ≤ 10
  ld : dv.length ≤ 10
  lw : w.length ≤ 10
  oa : okM 64 a
  fa : fine 40 (dyM a)
  od : okM 64 dv
  fd : fine 40 (dyM dv)
  ow : okV 64 w
  fw : fineV 40 (dyV w)
  kd : ∀ l ∈ dv, l.length ≤ 1000 ∧ ∀ r ∈ l, r.ok
  few : ¬ ckT a dv w = 0 ∨ a.length ≤ 3
structure InC (inner outer : List RD) : Prop where
  li : inner.length ≤ 10
  lo : outer.length ≤ 10
  oi : okV 64 inner
  fi : fineV 40 (dyV inner)
  oo : okV 64 outer
  fo : fineV 40 (dyV outer)
section
variable {a dv : List (List RD)} {w inner outer : List RD}
theorem In18.tok (h : In18 a dv w) (g : InC inner outer) {K : Int} (hc : ckC a dv w K inner outer = 0) : TubOK 64 64 a.length a dv w inner outer := tubOK_of (by omega) (by omega) h.oa h.od h.ow g.oi g.oo hc
theorem In18.acc (h : In18 a dv w) (g : InC inner outer) (K : Nat) (hc : ckC a dv w K inner outer = 0) : CallOK Tryd.prog gl 13 [.agg [.sl 1 (mrows a), .sl 1 (mrows dv), .sl 3 (vrows w)], .agg [.v (.int .i64 K), .sl 3 (vrows inner), .sl 3 (vrows outer)]] (.tup [.v (.bool (acceptsD K (dyM a) (dyM dv) (dyV w) (dyV inner) (dyV outer))), .v .nilIface]) :=
  tub_Accepts a dv w inner outer K 64 64 a.length (h.tok g hc) hc
end
end Go.Proofs.YtpggiabnhodjpaaDoor
