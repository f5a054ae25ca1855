-- Of the printed words those that this claim names: the others were left out by a program of this session.
-- PRINTED WORDS (module Derived/Print/Sized.lean): go-gate-2's, for the rows of laws over slices: an AI agent of Go's test side, Tue Nov 17 2026; no person has read it. Lean checks it.
import Derived.SizedLaws
import Derived.ChangeSlices
namespace Go.Proofs.YtjmpaeckpbpclaaW.PrintWords
open Go.ChangeShapes Go.WideShapes
end Go.Proofs.YtjmpaeckpbpclaaW.PrintWords
