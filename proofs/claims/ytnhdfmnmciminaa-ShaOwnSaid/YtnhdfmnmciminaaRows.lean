/-
  No cell of these rows narrows 'for every input' (looked for: loops, veiled, ifaces, maps, wideKeys, modest, calm, conditions, laid).
  DERIVED. THE GIVEN ROWS OF THIS SEAT. 6 by the template 'for every input the law returns true; each argument reads behind the call as it read before'; 0 by the template 'total and deterministic' (their statements: YtnhdfmnmciminaaTotals.lean).
  GIVEN WITH THE SEED: the statements are not yours to turn. If you find one false, say at which input.
  Laid BY PROGRAM, IN A SANDBOX (cutbox-rows.mjs): the forced cells as the released guide's own fill.sh prints them over the translation a8a2aaec0372edde… (all of the seat's roots in one cut). By AI agents, Wed Nov 11 2026. No macro, syntax, notation, axiom, sorry.
-/
import Derived.Test.YtnhdfmnmciminaaChecked
import GoSem.Claim
import GoSem.ClaimJoined
import GoSem.ClaimMapViews
import Derived.JoinedTies
import Derived.KernelRfl
namespace Go.Proofs.Ytnhdfmnmciminaa
/- THE CELL 'sum', in the pinned program and in every row, IS THE sha256 OF THE DUMP (.gsa) THAT YtnhdfmnmciminaaProg.lean LOADS. Nothing in Lean hashes anything: it is a label: what it is worth is what the hold of that sum in a sandbox is worth. -/
noncomputable def Try.pinned : Pinned := { name := "ytnhdfmnmciminaa", sum := "a8a2aaec0372eddeaaa82b845ed0b0733fd02502d759c7418b71af1654934722", checked := Try.checked }
namespace Rows
def none {H : Type} : Left H := { results := [], args := [] }

/-- 'epactlaw06.FaceValid': WHATEVER THE INPUT: true; the input reads as it did. -/
def faceValidSpec : ChangeSpec := { name := "faceValid", fn := fun _ => fun
  | [d] => { results := [.lit (.bool true)], args := [d] }
  | _ => none }
def faceValidRow : OpenClaim := { program := "ytnhdfmnmciminaa", sum := "a8a2aaec0372eddeaaa82b845ed0b0733fd02502d759c7418b71af1654934722", func := "epact/epactlaw06.FaceValid", spec := "faceValid", apart := false }
def FaceValidSaid : Prop := faceValidRow.holds Try.pinned (OpenSpec.ofChange faceValidSpec)

/-- ITS FALSE NEIGHBOUR: 'it returns false'. Refute it at one input. -/
def faceValidWrong : ChangeSpec := { name := "faceValid", fn := fun _ => fun
  | [d] => { results := [.lit (.bool false)], args := [d] }
  | _ => none }
def FaceValidWrongFalsely : Prop := faceValidRow.holds Try.pinned (OpenSpec.ofChange faceValidWrong)

/-- 'epactlaw06.FaceSecs': WHATEVER THE INPUT: true; the input reads as it did. -/
def faceSecsSpec : ChangeSpec := { name := "faceSecs", fn := fun _ => fun
  | [d] => { results := [.lit (.bool true)], args := [d] }
  | _ => none }
def faceSecsRow : OpenClaim := { program := "ytnhdfmnmciminaa", sum := "a8a2aaec0372eddeaaa82b845ed0b0733fd02502d759c7418b71af1654934722", func := "epact/epactlaw06.FaceSecs", spec := "faceSecs", apart := false }
def FaceSecsSaid : Prop := faceSecsRow.holds Try.pinned (OpenSpec.ofChange faceSecsSpec)

/-- ITS FALSE NEIGHBOUR: 'it returns false'. Refute it at one input. -/
def faceSecsWrong : ChangeSpec := { name := "faceSecs", fn := fun _ => fun
  | [d] => { results := [.lit (.bool false)], args := [d] }
  | _ => none }
def FaceSecsWrongFalsely : Prop := faceSecsRow.holds Try.pinned (OpenSpec.ofChange faceSecsWrong)

/-- 'epactlaw06.FaceTimes': WHATEVER THE INPUT: true; the input reads as it did. -/
def faceTimesSpec : ChangeSpec := { name := "faceTimes", fn := fun _ => fun
  | [d1, d2] => { results := [.lit (.bool true)], args := [d1, d2] }
  | _ => none }
def faceTimesRow : OpenClaim := { program := "ytnhdfmnmciminaa", sum := "a8a2aaec0372eddeaaa82b845ed0b0733fd02502d759c7418b71af1654934722", func := "epact/epactlaw06.FaceTimes", spec := "faceTimes", apart := false }
def FaceTimesSaid : Prop := faceTimesRow.holds Try.pinned (OpenSpec.ofChange faceTimesSpec)

/-- ITS FALSE NEIGHBOUR: 'it returns false'. Refute it at one input. -/
def faceTimesWrong : ChangeSpec := { name := "faceTimes", fn := fun _ => fun
  | [d1, d2] => { results := [.lit (.bool false)], args := [d1, d2] }
  | _ => none }
def FaceTimesWrongFalsely : Prop := faceTimesRow.holds Try.pinned (OpenSpec.ofChange faceTimesWrong)

/-- 'epactlaw09.ShaSums': WHATEVER THE INPUT: true; the input reads as it did. -/
def shaSumsSpec : ChangeSpec := { name := "shaSums", fn := fun _ => fun
  | [d] => { results := [.lit (.bool true)], args := [d] }
  | _ => none }
def shaSumsRow : OpenClaim := { program := "ytnhdfmnmciminaa", sum := "a8a2aaec0372eddeaaa82b845ed0b0733fd02502d759c7418b71af1654934722", func := "epact/epactlaw09.ShaSums", spec := "shaSums", apart := false }
def ShaSumsSaid : Prop := shaSumsRow.holds Try.pinned (OpenSpec.ofChange shaSumsSpec)

/-- ITS FALSE NEIGHBOUR: 'it returns false'. Refute it at one input. -/
def shaSumsWrong : ChangeSpec := { name := "shaSums", fn := fun _ => fun
  | [d] => { results := [.lit (.bool false)], args := [d] }
  | _ => none }
def ShaSumsWrongFalsely : Prop := shaSumsRow.holds Try.pinned (OpenSpec.ofChange shaSumsWrong)

/-- 'epactlaw09.ShaPads': WHATEVER THE INPUT: true; the input reads as it did. -/
def shaPadsSpec : ChangeSpec := { name := "shaPads", fn := fun _ => fun
  | [d1, d2, d3] => { results := [.lit (.bool true)], args := [d1, d2, d3] }
  | _ => none }
def shaPadsRow : OpenClaim := { program := "ytnhdfmnmciminaa", sum := "a8a2aaec0372eddeaaa82b845ed0b0733fd02502d759c7418b71af1654934722", func := "epact/epactlaw09.ShaPads", spec := "shaPads", apart := false }
def ShaPadsSaid : Prop := shaPadsRow.holds Try.pinned (OpenSpec.ofChange shaPadsSpec)

/-- ITS FALSE NEIGHBOUR: 'it returns false'. Refute it at one input. -/
def shaPadsWrong : ChangeSpec := { name := "shaPads", fn := fun _ => fun
  | [d1, d2, d3] => { results := [.lit (.bool false)], args := [d1, d2, d3] }
  | _ => none }
def ShaPadsWrongFalsely : Prop := shaPadsRow.holds Try.pinned (OpenSpec.ofChange shaPadsWrong)

/-- 'epactlaw09.ShaOwn': WHATEVER THE INPUT: true; the input reads as it did. -/
def shaOwnSpec : ChangeSpec := { name := "shaOwn", fn := fun _ => fun
  | [d1, d2] => { results := [.lit (.bool true)], args := [d1, d2] }
  | _ => none }
def shaOwnRow : OpenClaim := { program := "ytnhdfmnmciminaa", sum := "a8a2aaec0372eddeaaa82b845ed0b0733fd02502d759c7418b71af1654934722", func := "epact/epactlaw09.ShaOwn", spec := "shaOwn", apart := false }
def ShaOwnSaid : Prop := shaOwnRow.holds Try.pinned (OpenSpec.ofChange shaOwnSpec)

/-- ITS FALSE NEIGHBOUR: 'it returns false'. Refute it at one input. -/
def shaOwnWrong : ChangeSpec := { name := "shaOwn", fn := fun _ => fun
  | [d1, d2] => { results := [.lit (.bool false)], args := [d1, d2] }
  | _ => none }
def ShaOwnWrongFalsely : Prop := shaOwnRow.holds Try.pinned (OpenSpec.ofChange shaOwnWrong)

/- THE SECOND FORM. 'bulk': how many values and letters a reading holds, each counted each time it is reached (what is shared counts as often as it is met; a slice's spare places count too). A statement '..UptoSaid' is the law's where the arguments, and the package variables that the reading takes, are together of bulk at most 1048576: NARROWER than '..Said'. Prove '..Said' where nothing that the law and all that it calls make is longer than what came in: it says more and counts as full. Else prove '..UptoSaid'. A law counts once. -/
mutual
def uptoBulk {H : Type} : DataW H → Nat
  | .lit (.string bytes) => bytes.length + 1
  | .lit _ => 1
  | .nil => 1
  | .ptr d => uptoBulk d + 1
  | .slice elems spare => uptoBulkAll elems + uptoBulkAll spare + 1
  | .agg parts => uptoBulkAll parts + 1
  | .iface _ d => uptoBulk d + 1
  | .map entries => uptoBulkEntries entries + 1
  | .held _ => 1
def uptoBulkAll {H : Type} : List (DataW H) → Nat
  | [] => 0
  | d :: r => uptoBulk d + uptoBulkAll r
def uptoBulkEntries {H : Type} : List (Lit × DataW H) → Nat
  | [] => 0
  | x :: r => uptoBulkEntry x + uptoBulkEntries r
def uptoBulkEntry {H : Type} : Lit × DataW H → Nat
  | (.string bytes, d) => bytes.length + uptoBulk d + 1
  | (_, d) => uptoBulk d + 1
 end
def uptoSmall : (H : Type) → List (DataW H) → Bool := fun _ ds => decide (uptoBulkAll ds ≤ 1048576)
def OpenSpec.upto (s : _root_.Go.ChangeSpec) : _root_.Go.OpenSpec := { _root_.Go.OpenSpec.ofChange s with cond := some uptoSmall }

/-- 'epactlaw06.FaceValid', WHERE WHAT IT READS IS OF BULK AT MOST 1048576: true; the input reads as it did. -/
def faceValidUptoRow : OpenClaim := { program := "ytnhdfmnmciminaa", sum := "a8a2aaec0372eddeaaa82b845ed0b0733fd02502d759c7418b71af1654934722", func := "epact/epactlaw06.FaceValid", spec := "faceValid", apart := false, narrowed := true }
def FaceValidUptoSaid : Prop := faceValidUptoRow.holds Try.pinned (OpenSpec.upto faceValidSpec)

/-- 'epactlaw06.FaceSecs', WHERE WHAT IT READS IS OF BULK AT MOST 1048576: true; the input reads as it did. -/
def faceSecsUptoRow : OpenClaim := { program := "ytnhdfmnmciminaa", sum := "a8a2aaec0372eddeaaa82b845ed0b0733fd02502d759c7418b71af1654934722", func := "epact/epactlaw06.FaceSecs", spec := "faceSecs", apart := false, narrowed := true }
def FaceSecsUptoSaid : Prop := faceSecsUptoRow.holds Try.pinned (OpenSpec.upto faceSecsSpec)

/-- 'epactlaw06.FaceTimes', WHERE WHAT IT READS IS OF BULK AT MOST 1048576: true; the input reads as it did. -/
def faceTimesUptoRow : OpenClaim := { program := "ytnhdfmnmciminaa", sum := "a8a2aaec0372eddeaaa82b845ed0b0733fd02502d759c7418b71af1654934722", func := "epact/epactlaw06.FaceTimes", spec := "faceTimes", apart := false, narrowed := true }
def FaceTimesUptoSaid : Prop := faceTimesUptoRow.holds Try.pinned (OpenSpec.upto faceTimesSpec)

/-- 'epactlaw09.ShaSums', WHERE WHAT IT READS IS OF BULK AT MOST 1048576: true; the input reads as it did. -/
def shaSumsUptoRow : OpenClaim := { program := "ytnhdfmnmciminaa", sum := "a8a2aaec0372eddeaaa82b845ed0b0733fd02502d759c7418b71af1654934722", func := "epact/epactlaw09.ShaSums", spec := "shaSums", apart := false, narrowed := true }
def ShaSumsUptoSaid : Prop := shaSumsUptoRow.holds Try.pinned (OpenSpec.upto shaSumsSpec)

/-- 'epactlaw09.ShaPads', WHERE WHAT IT READS IS OF BULK AT MOST 1048576: true; the input reads as it did. -/
def shaPadsUptoRow : OpenClaim := { program := "ytnhdfmnmciminaa", sum := "a8a2aaec0372eddeaaa82b845ed0b0733fd02502d759c7418b71af1654934722", func := "epact/epactlaw09.ShaPads", spec := "shaPads", apart := false, narrowed := true }
def ShaPadsUptoSaid : Prop := shaPadsUptoRow.holds Try.pinned (OpenSpec.upto shaPadsSpec)

/-- 'epactlaw09.ShaOwn', WHERE WHAT IT READS IS OF BULK AT MOST 1048576: true; the input reads as it did. -/
def shaOwnUptoRow : OpenClaim := { program := "ytnhdfmnmciminaa", sum := "a8a2aaec0372eddeaaa82b845ed0b0733fd02502d759c7418b71af1654934722", func := "epact/epactlaw09.ShaOwn", spec := "shaOwn", apart := false, narrowed := true }
def ShaOwnUptoSaid : Prop := shaOwnUptoRow.holds Try.pinned (OpenSpec.upto shaOwnSpec)

end Rows
end Go.Proofs.Ytnhdfmnmciminaa
