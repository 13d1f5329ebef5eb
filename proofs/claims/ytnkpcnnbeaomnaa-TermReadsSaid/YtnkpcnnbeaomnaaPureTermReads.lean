/- Any text: the program's reader and the reference's come to the same answer, whatever the text. No condition but the form's own reach. -/
import Derived.Test.YtnkpcnnbeaomnaaC25
import Derived.Test.YtnkpcnnbeaomnaaHReads
namespace Go.Proofs.Ytnkpcnnbeaomnaa.Pure
open Go.RowKit Go.Proofs.Ytnkpcnnbeaomnaa.C Go.Proofs.YtnkpcnnbeaomnaaW.PrintWords Go.Proofs.YtnkpcnnbeaomnaaW.PrintLast

theorem TermReads : aumbrylaw04_TermReads.Pure := by
  intro s hs
  obtain ⟨t, a, e, h1, h2, h3⟩ := parse_both s
  have hw := wakes_ev
  have hsame := same_ev t (by omega)
  refine Ev.rounds (r := true) ?_
  unfold aumbrylaw04_TermReads.f
  refine Ev.bind hw ?_
  simp only [if_true]
  refine Ev.bind h1 (Ev.bind h2 ?_)
  simp only
  refine Ev.bind hsame ?_
  simpa using Ev.now true

end Go.Proofs.Ytnkpcnnbeaomnaa.Pure
