/-
  No cell of these rows narrows 'for every input' (looked for: loops, veiled, ifaces, maps, wideKeys, modest, calm, conditions, laid).
  DERIVED. THE GIVEN ROWS OF THIS SEAT. 36 by the template 'for every input the law returns true; each argument reads behind the call as it read before'; 0 by the template 'total and deterministic' (their statements: YtpmamacjepcdmaaTotals.lean).
  GIVEN WITH THE SEED: the statements are not yours to turn. If you find one false, say at which input.
  Laid BY PROGRAM, IN A SANDBOX (cutbox-rows.mjs): the forced cells as the released guide's own fill.sh prints them over the translation a399a8c9be76be72… (all of the seat's roots in one cut). By AI agents, Wed Nov 11 2026. No macro, syntax, notation, axiom, sorry.
-/
import Derived.Test.YtpmamacjepcdmaaChecked
import GoSem.Claim
import GoSem.ClaimJoined
import GoSem.ClaimMapViews
import Derived.JoinedTies
import Derived.KernelRfl
namespace Go.Proofs.Ytpmamacjepcdmaa
/- THE CELL 'sum', in the pinned program and in every row, IS THE sha256 OF THE DUMP (.gsa) THAT YtpmamacjepcdmaaProg.lean LOADS. Nothing in Lean hashes anything: it is a label: what it is worth is what the hold of that sum in a sandbox is worth. -/
noncomputable def Try.pinned : Pinned := { name := "ytpmamacjepcdmaa", sum := "a399a8c9be76be72717c737ebc128005a5b589df92c74f7201f06728248e8d9f", checked := Try.checked }
namespace Rows
def none {H : Type} : Left H := { results := [], args := [] }

/-- 'turnstilelaw.Names': WHATEVER THE INPUT: true; the input reads as it did. -/
def namesSpec : ChangeSpec := { name := "names", fn := fun _ => fun
  | [] => { results := [.lit (.bool true)], args := [] }
  | _ => none }
def namesRow : OpenClaim := { program := "ytpmamacjepcdmaa", sum := "a399a8c9be76be72717c737ebc128005a5b589df92c74f7201f06728248e8d9f", func := "turnstile/turnstilelaw.Names", spec := "names", plainKeys := false, apart := false }
def NamesSaid : Prop := namesRow.holds Try.pinned (OpenSpec.ofChange namesSpec)

/-- ITS FALSE NEIGHBOUR: 'it returns false'. Refute it at one input. -/
def namesWrong : ChangeSpec := { name := "names", fn := fun _ => fun
  | [] => { results := [.lit (.bool false)], args := [] }
  | _ => none }
def NamesWrongFalsely : Prop := namesRow.holds Try.pinned (OpenSpec.ofChange namesWrong)

/-- 'turnstilelaw.FrameBegins': WHATEVER THE INPUT: true; the input reads as it did. -/
def frameBeginsSpec : ChangeSpec := { name := "frameBegins", fn := fun _ => fun
  | [d1, d2] => { results := [.lit (.bool true)], args := [d1, d2] }
  | _ => none }
def frameBeginsRow : OpenClaim := { program := "ytpmamacjepcdmaa", sum := "a399a8c9be76be72717c737ebc128005a5b589df92c74f7201f06728248e8d9f", func := "turnstile/turnstilelaw.FrameBegins", spec := "frameBegins", plainKeys := false, apart := false }
def FrameBeginsSaid : Prop := frameBeginsRow.holds Try.pinned (OpenSpec.ofChange frameBeginsSpec)

/-- ITS FALSE NEIGHBOUR: 'it returns false'. Refute it at one input. -/
def frameBeginsWrong : ChangeSpec := { name := "frameBegins", fn := fun _ => fun
  | [d1, d2] => { results := [.lit (.bool false)], args := [d1, d2] }
  | _ => none }
def FrameBeginsWrongFalsely : Prop := frameBeginsRow.holds Try.pinned (OpenSpec.ofChange frameBeginsWrong)

/-- 'turnstilelaw.FrameTells': WHATEVER THE INPUT: true; the input reads as it did. -/
def frameTellsSpec : ChangeSpec := { name := "frameTells", fn := fun _ => fun
  | [d1, d2, d3, d4] => { results := [.lit (.bool true)], args := [d1, d2, d3, d4] }
  | _ => none }
def frameTellsRow : OpenClaim := { program := "ytpmamacjepcdmaa", sum := "a399a8c9be76be72717c737ebc128005a5b589df92c74f7201f06728248e8d9f", func := "turnstile/turnstilelaw.FrameTells", spec := "frameTells", plainKeys := false, apart := false }
def FrameTellsSaid : Prop := frameTellsRow.holds Try.pinned (OpenSpec.ofChange frameTellsSpec)

/-- ITS FALSE NEIGHBOUR: 'it returns false'. Refute it at one input. -/
def frameTellsWrong : ChangeSpec := { name := "frameTells", fn := fun _ => fun
  | [d1, d2, d3, d4] => { results := [.lit (.bool false)], args := [d1, d2, d3, d4] }
  | _ => none }
def FrameTellsWrongFalsely : Prop := frameTellsRow.holds Try.pinned (OpenSpec.ofChange frameTellsWrong)

/-- 'turnstilelaw.MemFull': WHATEVER THE INPUT: true; the input reads as it did. -/
def memFullSpec : ChangeSpec := { name := "memFull", fn := fun _ => fun
  | [d1, d2, d3] => { results := [.lit (.bool true)], args := [d1, d2, d3] }
  | _ => none }
def memFullRow : OpenClaim := { program := "ytpmamacjepcdmaa", sum := "a399a8c9be76be72717c737ebc128005a5b589df92c74f7201f06728248e8d9f", func := "turnstile/turnstilelaw.MemFull", spec := "memFull", unfollowed := true, recurses := true, plainKeys := false, apart := false }
def MemFullSaid : Prop := memFullRow.holds Try.pinned (OpenSpec.ofChange memFullSpec)

/-- ITS FALSE NEIGHBOUR: 'it returns false'. Refute it at one input. -/
def memFullWrong : ChangeSpec := { name := "memFull", fn := fun _ => fun
  | [d1, d2, d3] => { results := [.lit (.bool false)], args := [d1, d2, d3] }
  | _ => none }
def MemFullWrongFalsely : Prop := memFullRow.holds Try.pinned (OpenSpec.ofChange memFullWrong)

/-- 'turnstilelaw.MemTells': WHATEVER THE INPUT: true; the input reads as it did. -/
def memTellsSpec : ChangeSpec := { name := "memTells", fn := fun _ => fun
  | [d1, d2, d3, d4] => { results := [.lit (.bool true)], args := [d1, d2, d3, d4] }
  | _ => none }
def memTellsRow : OpenClaim := { program := "ytpmamacjepcdmaa", sum := "a399a8c9be76be72717c737ebc128005a5b589df92c74f7201f06728248e8d9f", func := "turnstile/turnstilelaw.MemTells", spec := "memTells", plainKeys := false, apart := false }
def MemTellsSaid : Prop := memTellsRow.holds Try.pinned (OpenSpec.ofChange memTellsSpec)

/-- ITS FALSE NEIGHBOUR: 'it returns false'. Refute it at one input. -/
def memTellsWrong : ChangeSpec := { name := "memTells", fn := fun _ => fun
  | [d1, d2, d3, d4] => { results := [.lit (.bool false)], args := [d1, d2, d3, d4] }
  | _ => none }
def MemTellsWrongFalsely : Prop := memTellsRow.holds Try.pinned (OpenSpec.ofChange memTellsWrong)

/-- 'turnstilelaw.MemTakes': WHATEVER THE INPUT: true; the input reads as it did. -/
def memTakesSpec : ChangeSpec := { name := "memTakes", fn := fun _ => fun
  | [d1, d2, d3, d4] => { results := [.lit (.bool true)], args := [d1, d2, d3, d4] }
  | _ => none }
def memTakesRow : OpenClaim := { program := "ytpmamacjepcdmaa", sum := "a399a8c9be76be72717c737ebc128005a5b589df92c74f7201f06728248e8d9f", func := "turnstile/turnstilelaw.MemTakes", spec := "memTakes", plainKeys := false, apart := false }
def MemTakesSaid : Prop := memTakesRow.holds Try.pinned (OpenSpec.ofChange memTakesSpec)

/-- ITS FALSE NEIGHBOUR: 'it returns false'. Refute it at one input. -/
def memTakesWrong : ChangeSpec := { name := "memTakes", fn := fun _ => fun
  | [d1, d2, d3, d4] => { results := [.lit (.bool false)], args := [d1, d2, d3, d4] }
  | _ => none }
def MemTakesWrongFalsely : Prop := memTakesRow.holds Try.pinned (OpenSpec.ofChange memTakesWrong)

/-- 'turnstilelaw.MemBack': WHATEVER THE INPUT: true; the input reads as it did. -/
def memBackSpec : ChangeSpec := { name := "memBack", fn := fun _ => fun
  | [d1, d2, d3, d4] => { results := [.lit (.bool true)], args := [d1, d2, d3, d4] }
  | _ => none }
def memBackRow : OpenClaim := { program := "ytpmamacjepcdmaa", sum := "a399a8c9be76be72717c737ebc128005a5b589df92c74f7201f06728248e8d9f", func := "turnstile/turnstilelaw.MemBack", spec := "memBack", plainKeys := false, apart := false }
def MemBackSaid : Prop := memBackRow.holds Try.pinned (OpenSpec.ofChange memBackSpec)

/-- ITS FALSE NEIGHBOUR: 'it returns false'. Refute it at one input. -/
def memBackWrong : ChangeSpec := { name := "memBack", fn := fun _ => fun
  | [d1, d2, d3, d4] => { results := [.lit (.bool false)], args := [d1, d2, d3, d4] }
  | _ => none }
def MemBackWrongFalsely : Prop := memBackRow.holds Try.pinned (OpenSpec.ofChange memBackWrong)

/-- 'turnstilelaw.MemOften': WHATEVER THE INPUT: true; the input reads as it did. -/
def memOftenSpec : ChangeSpec := { name := "memOften", fn := fun _ => fun
  | [d1, d2, d3] => { results := [.lit (.bool true)], args := [d1, d2, d3] }
  | _ => none }
def memOftenRow : OpenClaim := { program := "ytpmamacjepcdmaa", sum := "a399a8c9be76be72717c737ebc128005a5b589df92c74f7201f06728248e8d9f", func := "turnstile/turnstilelaw.MemOften", spec := "memOften", plainKeys := false, apart := false }
def MemOftenSaid : Prop := memOftenRow.holds Try.pinned (OpenSpec.ofChange memOftenSpec)

/-- ITS FALSE NEIGHBOUR: 'it returns false'. Refute it at one input. -/
def memOftenWrong : ChangeSpec := { name := "memOften", fn := fun _ => fun
  | [d1, d2, d3] => { results := [.lit (.bool false)], args := [d1, d2, d3] }
  | _ => none }
def MemOftenWrongFalsely : Prop := memOftenRow.holds Try.pinned (OpenSpec.ofChange memOftenWrong)

/-- 'turnstilelaw.ChainTells': WHATEVER THE INPUT: true; the input reads as it did. -/
def chainTellsSpec : ChangeSpec := { name := "chainTells", fn := fun _ => fun
  | [d1, d2] => { results := [.lit (.bool true)], args := [d1, d2] }
  | _ => none }
def chainTellsRow : OpenClaim := { program := "ytpmamacjepcdmaa", sum := "a399a8c9be76be72717c737ebc128005a5b589df92c74f7201f06728248e8d9f", func := "turnstile/turnstilelaw.ChainTells", spec := "chainTells", unfollowed := true, recurses := true, plainKeys := false, apart := false }
def ChainTellsSaid : Prop := chainTellsRow.holds Try.pinned (OpenSpec.ofChange chainTellsSpec)

/-- ITS FALSE NEIGHBOUR: 'it returns false'. Refute it at one input. -/
def chainTellsWrong : ChangeSpec := { name := "chainTells", fn := fun _ => fun
  | [d1, d2] => { results := [.lit (.bool false)], args := [d1, d2] }
  | _ => none }
def ChainTellsWrongFalsely : Prop := chainTellsRow.holds Try.pinned (OpenSpec.ofChange chainTellsWrong)

/-- 'turnstilelaw.StoryHolds': WHATEVER THE INPUT: true; the input reads as it did. -/
def storyHoldsSpec : ChangeSpec := { name := "storyHolds", fn := fun _ => fun
  | [d1, d2, d3, d4] => { results := [.lit (.bool true)], args := [d1, d2, d3, d4] }
  | _ => none }
def storyHoldsRow : OpenClaim := { program := "ytpmamacjepcdmaa", sum := "a399a8c9be76be72717c737ebc128005a5b589df92c74f7201f06728248e8d9f", func := "turnstile/turnstilelaw.StoryHolds", spec := "storyHolds", unfollowed := true, recurses := true, plainKeys := false, apart := false }
def StoryHoldsSaid : Prop := storyHoldsRow.holds Try.pinned (OpenSpec.ofChange storyHoldsSpec)

/-- ITS FALSE NEIGHBOUR: 'it returns false'. Refute it at one input. -/
def storyHoldsWrong : ChangeSpec := { name := "storyHolds", fn := fun _ => fun
  | [d1, d2, d3, d4] => { results := [.lit (.bool false)], args := [d1, d2, d3, d4] }
  | _ => none }
def StoryHoldsWrongFalsely : Prop := storyHoldsRow.holds Try.pinned (OpenSpec.ofChange storyHoldsWrong)

/-- 'turnstilelaw.ChainLinks': WHATEVER THE INPUT: true; the input reads as it did. -/
def chainLinksSpec : ChangeSpec := { name := "chainLinks", fn := fun _ => fun
  | [d1, d2, d3] => { results := [.lit (.bool true)], args := [d1, d2, d3] }
  | _ => none }
def chainLinksRow : OpenClaim := { program := "ytpmamacjepcdmaa", sum := "a399a8c9be76be72717c737ebc128005a5b589df92c74f7201f06728248e8d9f", func := "turnstile/turnstilelaw.ChainLinks", spec := "chainLinks", unfollowed := true, recurses := true, plainKeys := false, apart := false }
def ChainLinksSaid : Prop := chainLinksRow.holds Try.pinned (OpenSpec.ofChange chainLinksSpec)

/-- ITS FALSE NEIGHBOUR: 'it returns false'. Refute it at one input. -/
def chainLinksWrong : ChangeSpec := { name := "chainLinks", fn := fun _ => fun
  | [d1, d2, d3] => { results := [.lit (.bool false)], args := [d1, d2, d3] }
  | _ => none }
def ChainLinksWrongFalsely : Prop := chainLinksRow.holds Try.pinned (OpenSpec.ofChange chainLinksWrong)

/-- 'turnstilelaw.ChainBack': WHATEVER THE INPUT: true; the input reads as it did. -/
def chainBackSpec : ChangeSpec := { name := "chainBack", fn := fun _ => fun
  | [d1, d2, d3] => { results := [.lit (.bool true)], args := [d1, d2, d3] }
  | _ => none }
def chainBackRow : OpenClaim := { program := "ytpmamacjepcdmaa", sum := "a399a8c9be76be72717c737ebc128005a5b589df92c74f7201f06728248e8d9f", func := "turnstile/turnstilelaw.ChainBack", spec := "chainBack", unfollowed := true, recurses := true, plainKeys := false, apart := false }
def ChainBackSaid : Prop := chainBackRow.holds Try.pinned (OpenSpec.ofChange chainBackSpec)

/-- ITS FALSE NEIGHBOUR: 'it returns false'. Refute it at one input. -/
def chainBackWrong : ChangeSpec := { name := "chainBack", fn := fun _ => fun
  | [d1, d2, d3] => { results := [.lit (.bool false)], args := [d1, d2, d3] }
  | _ => none }
def ChainBackWrongFalsely : Prop := chainBackRow.holds Try.pinned (OpenSpec.ofChange chainBackWrong)

/-- 'turnstilelaw.ChainApart': WHATEVER THE INPUT: true; the input reads as it did. -/
def chainApartSpec : ChangeSpec := { name := "chainApart", fn := fun _ => fun
  | [d1, d2] => { results := [.lit (.bool true)], args := [d1, d2] }
  | _ => none }
def chainApartRow : OpenClaim := { program := "ytpmamacjepcdmaa", sum := "a399a8c9be76be72717c737ebc128005a5b589df92c74f7201f06728248e8d9f", func := "turnstile/turnstilelaw.ChainApart", spec := "chainApart", unfollowed := true, recurses := true, plainKeys := false, apart := false }
def ChainApartSaid : Prop := chainApartRow.holds Try.pinned (OpenSpec.ofChange chainApartSpec)

/-- ITS FALSE NEIGHBOUR: 'it returns false'. Refute it at one input. -/
def chainApartWrong : ChangeSpec := { name := "chainApart", fn := fun _ => fun
  | [d1, d2] => { results := [.lit (.bool false)], args := [d1, d2] }
  | _ => none }
def ChainApartWrongFalsely : Prop := chainApartRow.holds Try.pinned (OpenSpec.ofChange chainApartWrong)

/-- 'turnstilelaw.LookSteps': WHATEVER THE INPUT: true; the input reads as it did. -/
def lookStepsSpec : ChangeSpec := { name := "lookSteps", fn := fun _ => fun
  | [d1, d2] => { results := [.lit (.bool true)], args := [d1, d2] }
  | _ => none }
def lookStepsRow : OpenClaim := { program := "ytpmamacjepcdmaa", sum := "a399a8c9be76be72717c737ebc128005a5b589df92c74f7201f06728248e8d9f", func := "turnstile/turnstilelaw.LookSteps", spec := "lookSteps", unfollowed := true, recurses := true, plainKeys := false, apart := false }
def LookStepsSaid : Prop := lookStepsRow.holds Try.pinned (OpenSpec.ofChange lookStepsSpec)

/-- ITS FALSE NEIGHBOUR: 'it returns false'. Refute it at one input. -/
def lookStepsWrong : ChangeSpec := { name := "lookSteps", fn := fun _ => fun
  | [d1, d2] => { results := [.lit (.bool false)], args := [d1, d2] }
  | _ => none }
def LookStepsWrongFalsely : Prop := lookStepsRow.holds Try.pinned (OpenSpec.ofChange lookStepsWrong)

/-- 'turnstilelaw.DropSteps': WHATEVER THE INPUT: true; the input reads as it did. -/
def dropStepsSpec : ChangeSpec := { name := "dropSteps", fn := fun _ => fun
  | [d1, d2, d3] => { results := [.lit (.bool true)], args := [d1, d2, d3] }
  | _ => none }
def dropStepsRow : OpenClaim := { program := "ytpmamacjepcdmaa", sum := "a399a8c9be76be72717c737ebc128005a5b589df92c74f7201f06728248e8d9f", func := "turnstile/turnstilelaw.DropSteps", spec := "dropSteps", unfollowed := true, recurses := true, plainKeys := false, apart := false }
def DropStepsSaid : Prop := dropStepsRow.holds Try.pinned (OpenSpec.ofChange dropStepsSpec)

/-- ITS FALSE NEIGHBOUR: 'it returns false'. Refute it at one input. -/
def dropStepsWrong : ChangeSpec := { name := "dropSteps", fn := fun _ => fun
  | [d1, d2, d3] => { results := [.lit (.bool false)], args := [d1, d2, d3] }
  | _ => none }
def DropStepsWrongFalsely : Prop := dropStepsRow.holds Try.pinned (OpenSpec.ofChange dropStepsWrong)

/-- 'turnstilelaw.AddSteps': WHATEVER THE INPUT: true; the input reads as it did. -/
def addStepsSpec : ChangeSpec := { name := "addSteps", fn := fun _ => fun
  | [d1, d2, d3] => { results := [.lit (.bool true)], args := [d1, d2, d3] }
  | _ => none }
def addStepsRow : OpenClaim := { program := "ytpmamacjepcdmaa", sum := "a399a8c9be76be72717c737ebc128005a5b589df92c74f7201f06728248e8d9f", func := "turnstile/turnstilelaw.AddSteps", spec := "addSteps", unfollowed := true, recurses := true, plainKeys := false, apart := false }
def AddStepsSaid : Prop := addStepsRow.holds Try.pinned (OpenSpec.ofChange addStepsSpec)

/-- ITS FALSE NEIGHBOUR: 'it returns false'. Refute it at one input. -/
def addStepsWrong : ChangeSpec := { name := "addSteps", fn := fun _ => fun
  | [d1, d2, d3] => { results := [.lit (.bool false)], args := [d1, d2, d3] }
  | _ => none }
def AddStepsWrongFalsely : Prop := addStepsRow.holds Try.pinned (OpenSpec.ofChange addStepsWrong)

/-- 'turnstilelaw.SweepSteps': WHATEVER THE INPUT: true; the input reads as it did. -/
def sweepStepsSpec : ChangeSpec := { name := "sweepSteps", fn := fun _ => fun
  | [d1, d2, d3, d4] => { results := [.lit (.bool true)], args := [d1, d2, d3, d4] }
  | _ => none }
def sweepStepsRow : OpenClaim := { program := "ytpmamacjepcdmaa", sum := "a399a8c9be76be72717c737ebc128005a5b589df92c74f7201f06728248e8d9f", func := "turnstile/turnstilelaw.SweepSteps", spec := "sweepSteps", unfollowed := true, recurses := true, plainKeys := false, apart := false }
def SweepStepsSaid : Prop := sweepStepsRow.holds Try.pinned (OpenSpec.ofChange sweepStepsSpec)

/-- ITS FALSE NEIGHBOUR: 'it returns false'. Refute it at one input. -/
def sweepStepsWrong : ChangeSpec := { name := "sweepSteps", fn := fun _ => fun
  | [d1, d2, d3, d4] => { results := [.lit (.bool false)], args := [d1, d2, d3, d4] }
  | _ => none }
def SweepStepsWrongFalsely : Prop := sweepStepsRow.holds Try.pinned (OpenSpec.ofChange sweepStepsWrong)

/-- 'turnstilelaw.LookAlone': WHATEVER THE INPUT: true; the input reads as it did. -/
def lookAloneSpec : ChangeSpec := { name := "lookAlone", fn := fun _ => fun
  | [d1, d2] => { results := [.lit (.bool true)], args := [d1, d2] }
  | _ => none }
def lookAloneRow : OpenClaim := { program := "ytpmamacjepcdmaa", sum := "a399a8c9be76be72717c737ebc128005a5b589df92c74f7201f06728248e8d9f", func := "turnstile/turnstilelaw.LookAlone", spec := "lookAlone", unfollowed := true, recurses := true, plainKeys := false, apart := false }
def LookAloneSaid : Prop := lookAloneRow.holds Try.pinned (OpenSpec.ofChange lookAloneSpec)

/-- ITS FALSE NEIGHBOUR: 'it returns false'. Refute it at one input. -/
def lookAloneWrong : ChangeSpec := { name := "lookAlone", fn := fun _ => fun
  | [d1, d2] => { results := [.lit (.bool false)], args := [d1, d2] }
  | _ => none }
def LookAloneWrongFalsely : Prop := lookAloneRow.holds Try.pinned (OpenSpec.ofChange lookAloneWrong)

/-- 'turnstilelaw.DropAlone': WHATEVER THE INPUT: true; the input reads as it did. -/
def dropAloneSpec : ChangeSpec := { name := "dropAlone", fn := fun _ => fun
  | [d1, d2] => { results := [.lit (.bool true)], args := [d1, d2] }
  | _ => none }
def dropAloneRow : OpenClaim := { program := "ytpmamacjepcdmaa", sum := "a399a8c9be76be72717c737ebc128005a5b589df92c74f7201f06728248e8d9f", func := "turnstile/turnstilelaw.DropAlone", spec := "dropAlone", unfollowed := true, recurses := true, plainKeys := false, apart := false }
def DropAloneSaid : Prop := dropAloneRow.holds Try.pinned (OpenSpec.ofChange dropAloneSpec)

/-- ITS FALSE NEIGHBOUR: 'it returns false'. Refute it at one input. -/
def dropAloneWrong : ChangeSpec := { name := "dropAlone", fn := fun _ => fun
  | [d1, d2] => { results := [.lit (.bool false)], args := [d1, d2] }
  | _ => none }
def DropAloneWrongFalsely : Prop := dropAloneRow.holds Try.pinned (OpenSpec.ofChange dropAloneWrong)

/-- 'turnstilelaw.DropTouches': WHATEVER THE INPUT: true; the input reads as it did. -/
def dropTouchesSpec : ChangeSpec := { name := "dropTouches", fn := fun _ => fun
  | [d1, d2, d3] => { results := [.lit (.bool true)], args := [d1, d2, d3] }
  | _ => none }
def dropTouchesRow : OpenClaim := { program := "ytpmamacjepcdmaa", sum := "a399a8c9be76be72717c737ebc128005a5b589df92c74f7201f06728248e8d9f", func := "turnstile/turnstilelaw.DropTouches", spec := "dropTouches", unfollowed := true, recurses := true, plainKeys := false, apart := false }
def DropTouchesSaid : Prop := dropTouchesRow.holds Try.pinned (OpenSpec.ofChange dropTouchesSpec)

/-- ITS FALSE NEIGHBOUR: 'it returns false'. Refute it at one input. -/
def dropTouchesWrong : ChangeSpec := { name := "dropTouches", fn := fun _ => fun
  | [d1, d2, d3] => { results := [.lit (.bool false)], args := [d1, d2, d3] }
  | _ => none }
def DropTouchesWrongFalsely : Prop := dropTouchesRow.holds Try.pinned (OpenSpec.ofChange dropTouchesWrong)

/-- 'turnstilelaw.AddAlone': WHATEVER THE INPUT: true; the input reads as it did. -/
def addAloneSpec : ChangeSpec := { name := "addAlone", fn := fun _ => fun
  | [d1, d2, d3] => { results := [.lit (.bool true)], args := [d1, d2, d3] }
  | _ => none }
def addAloneRow : OpenClaim := { program := "ytpmamacjepcdmaa", sum := "a399a8c9be76be72717c737ebc128005a5b589df92c74f7201f06728248e8d9f", func := "turnstile/turnstilelaw.AddAlone", spec := "addAlone", unfollowed := true, recurses := true, plainKeys := false, apart := false }
def AddAloneSaid : Prop := addAloneRow.holds Try.pinned (OpenSpec.ofChange addAloneSpec)

/-- ITS FALSE NEIGHBOUR: 'it returns false'. Refute it at one input. -/
def addAloneWrong : ChangeSpec := { name := "addAlone", fn := fun _ => fun
  | [d1, d2, d3] => { results := [.lit (.bool false)], args := [d1, d2, d3] }
  | _ => none }
def AddAloneWrongFalsely : Prop := addAloneRow.holds Try.pinned (OpenSpec.ofChange addAloneWrong)

/-- 'turnstilelaw.LookTouches': WHATEVER THE INPUT: true; the input reads as it did. -/
def lookTouchesSpec : ChangeSpec := { name := "lookTouches", fn := fun _ => fun
  | [d1, d2] => { results := [.lit (.bool true)], args := [d1, d2] }
  | _ => none }
def lookTouchesRow : OpenClaim := { program := "ytpmamacjepcdmaa", sum := "a399a8c9be76be72717c737ebc128005a5b589df92c74f7201f06728248e8d9f", func := "turnstile/turnstilelaw.LookTouches", spec := "lookTouches", unfollowed := true, recurses := true, plainKeys := false, apart := false }
def LookTouchesSaid : Prop := lookTouchesRow.holds Try.pinned (OpenSpec.ofChange lookTouchesSpec)

/-- ITS FALSE NEIGHBOUR: 'it returns false'. Refute it at one input. -/
def lookTouchesWrong : ChangeSpec := { name := "lookTouches", fn := fun _ => fun
  | [d1, d2] => { results := [.lit (.bool false)], args := [d1, d2] }
  | _ => none }
def LookTouchesWrongFalsely : Prop := lookTouchesRow.holds Try.pinned (OpenSpec.ofChange lookTouchesWrong)

/-- 'turnstilelaw.AddTouches': WHATEVER THE INPUT: true; the input reads as it did. -/
def addTouchesSpec : ChangeSpec := { name := "addTouches", fn := fun _ => fun
  | [d1, d2, d3] => { results := [.lit (.bool true)], args := [d1, d2, d3] }
  | _ => none }
def addTouchesRow : OpenClaim := { program := "ytpmamacjepcdmaa", sum := "a399a8c9be76be72717c737ebc128005a5b589df92c74f7201f06728248e8d9f", func := "turnstile/turnstilelaw.AddTouches", spec := "addTouches", unfollowed := true, recurses := true, plainKeys := false, apart := false }
def AddTouchesSaid : Prop := addTouchesRow.holds Try.pinned (OpenSpec.ofChange addTouchesSpec)

/-- ITS FALSE NEIGHBOUR: 'it returns false'. Refute it at one input. -/
def addTouchesWrong : ChangeSpec := { name := "addTouches", fn := fun _ => fun
  | [d1, d2, d3] => { results := [.lit (.bool false)], args := [d1, d2, d3] }
  | _ => none }
def AddTouchesWrongFalsely : Prop := addTouchesRow.holds Try.pinned (OpenSpec.ofChange addTouchesWrong)

/-- 'turnstilelaw.SweepTouches': WHATEVER THE INPUT: true; the input reads as it did. -/
def sweepTouchesSpec : ChangeSpec := { name := "sweepTouches", fn := fun _ => fun
  | [d1, d2, d3, d4] => { results := [.lit (.bool true)], args := [d1, d2, d3, d4] }
  | _ => none }
def sweepTouchesRow : OpenClaim := { program := "ytpmamacjepcdmaa", sum := "a399a8c9be76be72717c737ebc128005a5b589df92c74f7201f06728248e8d9f", func := "turnstile/turnstilelaw.SweepTouches", spec := "sweepTouches", unfollowed := true, recurses := true, plainKeys := false, apart := false }
def SweepTouchesSaid : Prop := sweepTouchesRow.holds Try.pinned (OpenSpec.ofChange sweepTouchesSpec)

/-- ITS FALSE NEIGHBOUR: 'it returns false'. Refute it at one input. -/
def sweepTouchesWrong : ChangeSpec := { name := "sweepTouches", fn := fun _ => fun
  | [d1, d2, d3, d4] => { results := [.lit (.bool false)], args := [d1, d2, d3, d4] }
  | _ => none }
def SweepTouchesWrongFalsely : Prop := sweepTouchesRow.holds Try.pinned (OpenSpec.ofChange sweepTouchesWrong)

/-- 'turnstilelaw.SweepAlone': WHATEVER THE INPUT: true; the input reads as it did. -/
def sweepAloneSpec : ChangeSpec := { name := "sweepAlone", fn := fun _ => fun
  | [d1, d2] => { results := [.lit (.bool true)], args := [d1, d2] }
  | _ => none }
def sweepAloneRow : OpenClaim := { program := "ytpmamacjepcdmaa", sum := "a399a8c9be76be72717c737ebc128005a5b589df92c74f7201f06728248e8d9f", func := "turnstile/turnstilelaw.SweepAlone", spec := "sweepAlone", unfollowed := true, recurses := true, plainKeys := false, apart := false }
def SweepAloneSaid : Prop := sweepAloneRow.holds Try.pinned (OpenSpec.ofChange sweepAloneSpec)

/-- ITS FALSE NEIGHBOUR: 'it returns false'. Refute it at one input. -/
def sweepAloneWrong : ChangeSpec := { name := "sweepAlone", fn := fun _ => fun
  | [d1, d2] => { results := [.lit (.bool false)], args := [d1, d2] }
  | _ => none }
def SweepAloneWrongFalsely : Prop := sweepAloneRow.holds Try.pinned (OpenSpec.ofChange sweepAloneWrong)

/-- 'turnstilelaw.WorldRight': WHATEVER THE INPUT: true; the input reads as it did. -/
def worldRightSpec : ChangeSpec := { name := "worldRight", fn := fun _ => fun
  | [d1, d2, d3, d4] => { results := [.lit (.bool true)], args := [d1, d2, d3, d4] }
  | _ => none }
def worldRightRow : OpenClaim := { program := "ytpmamacjepcdmaa", sum := "a399a8c9be76be72717c737ebc128005a5b589df92c74f7201f06728248e8d9f", func := "turnstile/turnstilelaw.WorldRight", spec := "worldRight", unfollowed := true, recurses := true, plainKeys := false, apart := false }
def WorldRightSaid : Prop := worldRightRow.holds Try.pinned (OpenSpec.ofChange worldRightSpec)

/-- ITS FALSE NEIGHBOUR: 'it returns false'. Refute it at one input. -/
def worldRightWrong : ChangeSpec := { name := "worldRight", fn := fun _ => fun
  | [d1, d2, d3, d4] => { results := [.lit (.bool false)], args := [d1, d2, d3, d4] }
  | _ => none }
def WorldRightWrongFalsely : Prop := worldRightRow.holds Try.pinned (OpenSpec.ofChange worldRightWrong)

/-- 'turnstilelaw.WorldHeld': WHATEVER THE INPUT: true; the input reads as it did. -/
def worldHeldSpec : ChangeSpec := { name := "worldHeld", fn := fun _ => fun
  | [d1, d2, d3, d4] => { results := [.lit (.bool true)], args := [d1, d2, d3, d4] }
  | _ => none }
def worldHeldRow : OpenClaim := { program := "ytpmamacjepcdmaa", sum := "a399a8c9be76be72717c737ebc128005a5b589df92c74f7201f06728248e8d9f", func := "turnstile/turnstilelaw.WorldHeld", spec := "worldHeld", unfollowed := true, recurses := true, plainKeys := false, apart := false }
def WorldHeldSaid : Prop := worldHeldRow.holds Try.pinned (OpenSpec.ofChange worldHeldSpec)

/-- ITS FALSE NEIGHBOUR: 'it returns false'. Refute it at one input. -/
def worldHeldWrong : ChangeSpec := { name := "worldHeld", fn := fun _ => fun
  | [d1, d2, d3, d4] => { results := [.lit (.bool false)], args := [d1, d2, d3, d4] }
  | _ => none }
def WorldHeldWrongFalsely : Prop := worldHeldRow.holds Try.pinned (OpenSpec.ofChange worldHeldWrong)

/-- 'turnstilelaw.WorldLocks': WHATEVER THE INPUT: true; the input reads as it did. -/
def worldLocksSpec : ChangeSpec := { name := "worldLocks", fn := fun _ => fun
  | [d1, d2, d3, d4] => { results := [.lit (.bool true)], args := [d1, d2, d3, d4] }
  | _ => none }
def worldLocksRow : OpenClaim := { program := "ytpmamacjepcdmaa", sum := "a399a8c9be76be72717c737ebc128005a5b589df92c74f7201f06728248e8d9f", func := "turnstile/turnstilelaw.WorldLocks", spec := "worldLocks", unfollowed := true, recurses := true, plainKeys := false, apart := false }
def WorldLocksSaid : Prop := worldLocksRow.holds Try.pinned (OpenSpec.ofChange worldLocksSpec)

/-- ITS FALSE NEIGHBOUR: 'it returns false'. Refute it at one input. -/
def worldLocksWrong : ChangeSpec := { name := "worldLocks", fn := fun _ => fun
  | [d1, d2, d3, d4] => { results := [.lit (.bool false)], args := [d1, d2, d3, d4] }
  | _ => none }
def WorldLocksWrongFalsely : Prop := worldLocksRow.holds Try.pinned (OpenSpec.ofChange worldLocksWrong)

/-- 'turnstilelaw.WorldEnds': WHATEVER THE INPUT: true; the input reads as it did. -/
def worldEndsSpec : ChangeSpec := { name := "worldEnds", fn := fun _ => fun
  | [d1, d2, d3, d4] => { results := [.lit (.bool true)], args := [d1, d2, d3, d4] }
  | _ => none }
def worldEndsRow : OpenClaim := { program := "ytpmamacjepcdmaa", sum := "a399a8c9be76be72717c737ebc128005a5b589df92c74f7201f06728248e8d9f", func := "turnstile/turnstilelaw.WorldEnds", spec := "worldEnds", unfollowed := true, recurses := true, plainKeys := false, apart := false }
def WorldEndsSaid : Prop := worldEndsRow.holds Try.pinned (OpenSpec.ofChange worldEndsSpec)

/-- ITS FALSE NEIGHBOUR: 'it returns false'. Refute it at one input. -/
def worldEndsWrong : ChangeSpec := { name := "worldEnds", fn := fun _ => fun
  | [d1, d2, d3, d4] => { results := [.lit (.bool false)], args := [d1, d2, d3, d4] }
  | _ => none }
def WorldEndsWrongFalsely : Prop := worldEndsRow.holds Try.pinned (OpenSpec.ofChange worldEndsWrong)

/-- 'turnstilelaw.WorldFrees': WHATEVER THE INPUT: true; the input reads as it did. -/
def worldFreesSpec : ChangeSpec := { name := "worldFrees", fn := fun _ => fun
  | [d1, d2, d3, d4] => { results := [.lit (.bool true)], args := [d1, d2, d3, d4] }
  | _ => none }
def worldFreesRow : OpenClaim := { program := "ytpmamacjepcdmaa", sum := "a399a8c9be76be72717c737ebc128005a5b589df92c74f7201f06728248e8d9f", func := "turnstile/turnstilelaw.WorldFrees", spec := "worldFrees", unfollowed := true, recurses := true, plainKeys := false, apart := false }
def WorldFreesSaid : Prop := worldFreesRow.holds Try.pinned (OpenSpec.ofChange worldFreesSpec)

/-- ITS FALSE NEIGHBOUR: 'it returns false'. Refute it at one input. -/
def worldFreesWrong : ChangeSpec := { name := "worldFrees", fn := fun _ => fun
  | [d1, d2, d3, d4] => { results := [.lit (.bool false)], args := [d1, d2, d3, d4] }
  | _ => none }
def WorldFreesWrongFalsely : Prop := worldFreesRow.holds Try.pinned (OpenSpec.ofChange worldFreesWrong)

/-- 'turnstilelaw.WorldRuns': WHATEVER THE INPUT: true; the input reads as it did. -/
def worldRunsSpec : ChangeSpec := { name := "worldRuns", fn := fun _ => fun
  | [d1, d2] => { results := [.lit (.bool true)], args := [d1, d2] }
  | _ => none }
def worldRunsRow : OpenClaim := { program := "ytpmamacjepcdmaa", sum := "a399a8c9be76be72717c737ebc128005a5b589df92c74f7201f06728248e8d9f", func := "turnstile/turnstilelaw.WorldRuns", spec := "worldRuns", unfollowed := true, recurses := true, plainKeys := false, apart := false }
def WorldRunsSaid : Prop := worldRunsRow.holds Try.pinned (OpenSpec.ofChange worldRunsSpec)

/-- ITS FALSE NEIGHBOUR: 'it returns false'. Refute it at one input. -/
def worldRunsWrong : ChangeSpec := { name := "worldRuns", fn := fun _ => fun
  | [d1, d2] => { results := [.lit (.bool false)], args := [d1, d2] }
  | _ => none }
def WorldRunsWrongFalsely : Prop := worldRunsRow.holds Try.pinned (OpenSpec.ofChange worldRunsWrong)

/-- 'turnstilelaw.WorldOwn': WHATEVER THE INPUT: true; the input reads as it did. -/
def worldOwnSpec : ChangeSpec := { name := "worldOwn", fn := fun _ => fun
  | [d1, d2] => { results := [.lit (.bool true)], args := [d1, d2] }
  | _ => none }
def worldOwnRow : OpenClaim := { program := "ytpmamacjepcdmaa", sum := "a399a8c9be76be72717c737ebc128005a5b589df92c74f7201f06728248e8d9f", func := "turnstile/turnstilelaw.WorldOwn", spec := "worldOwn", unfollowed := true, recurses := true, plainKeys := false, apart := false }
def WorldOwnSaid : Prop := worldOwnRow.holds Try.pinned (OpenSpec.ofChange worldOwnSpec)

/-- ITS FALSE NEIGHBOUR: 'it returns false'. Refute it at one input. -/
def worldOwnWrong : ChangeSpec := { name := "worldOwn", fn := fun _ => fun
  | [d1, d2] => { results := [.lit (.bool false)], args := [d1, d2] }
  | _ => none }
def WorldOwnWrongFalsely : Prop := worldOwnRow.holds Try.pinned (OpenSpec.ofChange worldOwnWrong)

/-- 'turnstilelaw.StorySolo': WHATEVER THE INPUT: true; the input reads as it did. -/
def storySoloSpec : ChangeSpec := { name := "storySolo", fn := fun _ => fun
  | [d1, d2, d3, d4] => { results := [.lit (.bool true)], args := [d1, d2, d3, d4] }
  | _ => none }
def storySoloRow : OpenClaim := { program := "ytpmamacjepcdmaa", sum := "a399a8c9be76be72717c737ebc128005a5b589df92c74f7201f06728248e8d9f", func := "turnstile/turnstilelaw.StorySolo", spec := "storySolo", unfollowed := true, recurses := true, plainKeys := false, apart := false }
def StorySoloSaid : Prop := storySoloRow.holds Try.pinned (OpenSpec.ofChange storySoloSpec)

/-- ITS FALSE NEIGHBOUR: 'it returns false'. Refute it at one input. -/
def storySoloWrong : ChangeSpec := { name := "storySolo", fn := fun _ => fun
  | [d1, d2, d3, d4] => { results := [.lit (.bool false)], args := [d1, d2, d3, d4] }
  | _ => none }
def StorySoloWrongFalsely : Prop := storySoloRow.holds Try.pinned (OpenSpec.ofChange storySoloWrong)

/-- 'turnstilelaw.StoryLists': WHATEVER THE INPUT: true; the input reads as it did. -/
def storyListsSpec : ChangeSpec := { name := "storyLists", fn := fun _ => fun
  | [d1, d2, d3, d4] => { results := [.lit (.bool true)], args := [d1, d2, d3, d4] }
  | _ => none }
def storyListsRow : OpenClaim := { program := "ytpmamacjepcdmaa", sum := "a399a8c9be76be72717c737ebc128005a5b589df92c74f7201f06728248e8d9f", func := "turnstile/turnstilelaw.StoryLists", spec := "storyLists", unfollowed := true, recurses := true, plainKeys := false, apart := false }
def StoryListsSaid : Prop := storyListsRow.holds Try.pinned (OpenSpec.ofChange storyListsSpec)

/-- ITS FALSE NEIGHBOUR: 'it returns false'. Refute it at one input. -/
def storyListsWrong : ChangeSpec := { name := "storyLists", fn := fun _ => fun
  | [d1, d2, d3, d4] => { results := [.lit (.bool false)], args := [d1, d2, d3, d4] }
  | _ => none }
def StoryListsWrongFalsely : Prop := storyListsRow.holds Try.pinned (OpenSpec.ofChange storyListsWrong)

/-- 'turnstilelaw.WorldDoes': WHATEVER THE INPUT: true; the input reads as it did. -/
def worldDoesSpec : ChangeSpec := { name := "worldDoes", fn := fun _ => fun
  | [d1, d2, d3, d4, d5] => { results := [.lit (.bool true)], args := [d1, d2, d3, d4, d5] }
  | _ => none }
def worldDoesRow : OpenClaim := { program := "ytpmamacjepcdmaa", sum := "a399a8c9be76be72717c737ebc128005a5b589df92c74f7201f06728248e8d9f", func := "turnstile/turnstilelaw.WorldDoes", spec := "worldDoes", unfollowed := true, recurses := true, plainKeys := false, apart := false }
def WorldDoesSaid : Prop := worldDoesRow.holds Try.pinned (OpenSpec.ofChange worldDoesSpec)

/-- ITS FALSE NEIGHBOUR: 'it returns false'. Refute it at one input. -/
def worldDoesWrong : ChangeSpec := { name := "worldDoes", fn := fun _ => fun
  | [d1, d2, d3, d4, d5] => { results := [.lit (.bool false)], args := [d1, d2, d3, d4, d5] }
  | _ => none }
def WorldDoesWrongFalsely : Prop := worldDoesRow.holds Try.pinned (OpenSpec.ofChange worldDoesWrong)

/-- 'turnstilelaw.StoryTells': WHATEVER THE INPUT: true; the input reads as it did. -/
def storyTellsSpec : ChangeSpec := { name := "storyTells", fn := fun _ => fun
  | [d1, d2, d3] => { results := [.lit (.bool true)], args := [d1, d2, d3] }
  | _ => none }
def storyTellsRow : OpenClaim := { program := "ytpmamacjepcdmaa", sum := "a399a8c9be76be72717c737ebc128005a5b589df92c74f7201f06728248e8d9f", func := "turnstile/turnstilelaw.StoryTells", spec := "storyTells", unfollowed := true, recurses := true, plainKeys := false, apart := false }
def StoryTellsSaid : Prop := storyTellsRow.holds Try.pinned (OpenSpec.ofChange storyTellsSpec)

/-- ITS FALSE NEIGHBOUR: 'it returns false'. Refute it at one input. -/
def storyTellsWrong : ChangeSpec := { name := "storyTells", fn := fun _ => fun
  | [d1, d2, d3] => { results := [.lit (.bool false)], args := [d1, d2, d3] }
  | _ => none }
def StoryTellsWrongFalsely : Prop := storyTellsRow.holds Try.pinned (OpenSpec.ofChange storyTellsWrong)

/- THE SECOND FORM. 'bulk': how many values and letters a reading holds, each counted each time it is reached (what is shared counts as often as it is met; a slice's spare places count too). A statement '..UptoSaid' is the law's where the arguments, and the package variables that the reading takes, are together of bulk at most 1048576: NARROWER than '..Said'. Prove '..Said' where nothing that the law and all that it calls make is longer than what came in: it says more and counts as full. Else prove '..UptoSaid'. A law counts once. -/
mutual
def uptoBulk {H : Type} : DataW H → Nat
  | .lit (.string bytes) => bytes.length + 1
  | .lit _ => 1
  | .nil => 1
  | .ptr d => uptoBulk d + 1
  | .slice elems spare => uptoBulkAll elems + uptoBulkAll spare + 1
  | .agg parts => uptoBulkAll parts + 1
  | .iface _ d => uptoBulk d + 1
  | .map entries => uptoBulkEntries entries + 1
  | .held _ => 1
def uptoBulkAll {H : Type} : List (DataW H) → Nat
  | [] => 0
  | d :: r => uptoBulk d + uptoBulkAll r
def uptoBulkEntries {H : Type} : List (Lit × DataW H) → Nat
  | [] => 0
  | x :: r => uptoBulkEntry x + uptoBulkEntries r
def uptoBulkEntry {H : Type} : Lit × DataW H → Nat
  | (.string bytes, d) => bytes.length + uptoBulk d + 1
  | (_, d) => uptoBulk d + 1
 end
def uptoSmall : (H : Type) → List (DataW H) → Bool := fun _ ds => decide (uptoBulkAll ds ≤ 1048576)
def OpenSpec.upto (s : _root_.Go.ChangeSpec) : _root_.Go.OpenSpec := { _root_.Go.OpenSpec.ofChange s with cond := some uptoSmall }

/-- 'turnstilelaw.Names', WHERE WHAT IT READS IS OF BULK AT MOST 1048576: true; the input reads as it did. -/
def namesUptoRow : OpenClaim := { program := "ytpmamacjepcdmaa", sum := "a399a8c9be76be72717c737ebc128005a5b589df92c74f7201f06728248e8d9f", func := "turnstile/turnstilelaw.Names", spec := "names", plainKeys := false, apart := false, narrowed := true }
def NamesUptoSaid : Prop := namesUptoRow.holds Try.pinned (OpenSpec.upto namesSpec)

/-- 'turnstilelaw.FrameBegins', WHERE WHAT IT READS IS OF BULK AT MOST 1048576: true; the input reads as it did. -/
def frameBeginsUptoRow : OpenClaim := { program := "ytpmamacjepcdmaa", sum := "a399a8c9be76be72717c737ebc128005a5b589df92c74f7201f06728248e8d9f", func := "turnstile/turnstilelaw.FrameBegins", spec := "frameBegins", plainKeys := false, apart := false, narrowed := true }
def FrameBeginsUptoSaid : Prop := frameBeginsUptoRow.holds Try.pinned (OpenSpec.upto frameBeginsSpec)

/-- 'turnstilelaw.FrameTells', WHERE WHAT IT READS IS OF BULK AT MOST 1048576: true; the input reads as it did. -/
def frameTellsUptoRow : OpenClaim := { program := "ytpmamacjepcdmaa", sum := "a399a8c9be76be72717c737ebc128005a5b589df92c74f7201f06728248e8d9f", func := "turnstile/turnstilelaw.FrameTells", spec := "frameTells", plainKeys := false, apart := false, narrowed := true }
def FrameTellsUptoSaid : Prop := frameTellsUptoRow.holds Try.pinned (OpenSpec.upto frameTellsSpec)

/-- 'turnstilelaw.MemFull', WHERE WHAT IT READS IS OF BULK AT MOST 1048576: true; the input reads as it did. -/
def memFullUptoRow : OpenClaim := { program := "ytpmamacjepcdmaa", sum := "a399a8c9be76be72717c737ebc128005a5b589df92c74f7201f06728248e8d9f", func := "turnstile/turnstilelaw.MemFull", spec := "memFull", unfollowed := true, recurses := true, plainKeys := false, apart := false, narrowed := true }
def MemFullUptoSaid : Prop := memFullUptoRow.holds Try.pinned (OpenSpec.upto memFullSpec)

/-- 'turnstilelaw.MemTells', WHERE WHAT IT READS IS OF BULK AT MOST 1048576: true; the input reads as it did. -/
def memTellsUptoRow : OpenClaim := { program := "ytpmamacjepcdmaa", sum := "a399a8c9be76be72717c737ebc128005a5b589df92c74f7201f06728248e8d9f", func := "turnstile/turnstilelaw.MemTells", spec := "memTells", plainKeys := false, apart := false, narrowed := true }
def MemTellsUptoSaid : Prop := memTellsUptoRow.holds Try.pinned (OpenSpec.upto memTellsSpec)

/-- 'turnstilelaw.MemTakes', WHERE WHAT IT READS IS OF BULK AT MOST 1048576: true; the input reads as it did. -/
def memTakesUptoRow : OpenClaim := { program := "ytpmamacjepcdmaa", sum := "a399a8c9be76be72717c737ebc128005a5b589df92c74f7201f06728248e8d9f", func := "turnstile/turnstilelaw.MemTakes", spec := "memTakes", plainKeys := false, apart := false, narrowed := true }
def MemTakesUptoSaid : Prop := memTakesUptoRow.holds Try.pinned (OpenSpec.upto memTakesSpec)

/-- 'turnstilelaw.MemBack', WHERE WHAT IT READS IS OF BULK AT MOST 1048576: true; the input reads as it did. -/
def memBackUptoRow : OpenClaim := { program := "ytpmamacjepcdmaa", sum := "a399a8c9be76be72717c737ebc128005a5b589df92c74f7201f06728248e8d9f", func := "turnstile/turnstilelaw.MemBack", spec := "memBack", plainKeys := false, apart := false, narrowed := true }
def MemBackUptoSaid : Prop := memBackUptoRow.holds Try.pinned (OpenSpec.upto memBackSpec)

/-- 'turnstilelaw.MemOften', WHERE WHAT IT READS IS OF BULK AT MOST 1048576: true; the input reads as it did. -/
def memOftenUptoRow : OpenClaim := { program := "ytpmamacjepcdmaa", sum := "a399a8c9be76be72717c737ebc128005a5b589df92c74f7201f06728248e8d9f", func := "turnstile/turnstilelaw.MemOften", spec := "memOften", plainKeys := false, apart := false, narrowed := true }
def MemOftenUptoSaid : Prop := memOftenUptoRow.holds Try.pinned (OpenSpec.upto memOftenSpec)

/-- 'turnstilelaw.ChainTells', WHERE WHAT IT READS IS OF BULK AT MOST 1048576: true; the input reads as it did. -/
def chainTellsUptoRow : OpenClaim := { program := "ytpmamacjepcdmaa", sum := "a399a8c9be76be72717c737ebc128005a5b589df92c74f7201f06728248e8d9f", func := "turnstile/turnstilelaw.ChainTells", spec := "chainTells", unfollowed := true, recurses := true, plainKeys := false, apart := false, narrowed := true }
def ChainTellsUptoSaid : Prop := chainTellsUptoRow.holds Try.pinned (OpenSpec.upto chainTellsSpec)

/-- 'turnstilelaw.StoryHolds', WHERE WHAT IT READS IS OF BULK AT MOST 1048576: true; the input reads as it did. -/
def storyHoldsUptoRow : OpenClaim := { program := "ytpmamacjepcdmaa", sum := "a399a8c9be76be72717c737ebc128005a5b589df92c74f7201f06728248e8d9f", func := "turnstile/turnstilelaw.StoryHolds", spec := "storyHolds", unfollowed := true, recurses := true, plainKeys := false, apart := false, narrowed := true }
def StoryHoldsUptoSaid : Prop := storyHoldsUptoRow.holds Try.pinned (OpenSpec.upto storyHoldsSpec)

/-- 'turnstilelaw.ChainLinks', WHERE WHAT IT READS IS OF BULK AT MOST 1048576: true; the input reads as it did. -/
def chainLinksUptoRow : OpenClaim := { program := "ytpmamacjepcdmaa", sum := "a399a8c9be76be72717c737ebc128005a5b589df92c74f7201f06728248e8d9f", func := "turnstile/turnstilelaw.ChainLinks", spec := "chainLinks", unfollowed := true, recurses := true, plainKeys := false, apart := false, narrowed := true }
def ChainLinksUptoSaid : Prop := chainLinksUptoRow.holds Try.pinned (OpenSpec.upto chainLinksSpec)

/-- 'turnstilelaw.ChainBack', WHERE WHAT IT READS IS OF BULK AT MOST 1048576: true; the input reads as it did. -/
def chainBackUptoRow : OpenClaim := { program := "ytpmamacjepcdmaa", sum := "a399a8c9be76be72717c737ebc128005a5b589df92c74f7201f06728248e8d9f", func := "turnstile/turnstilelaw.ChainBack", spec := "chainBack", unfollowed := true, recurses := true, plainKeys := false, apart := false, narrowed := true }
def ChainBackUptoSaid : Prop := chainBackUptoRow.holds Try.pinned (OpenSpec.upto chainBackSpec)

/-- 'turnstilelaw.ChainApart', WHERE WHAT IT READS IS OF BULK AT MOST 1048576: true; the input reads as it did. -/
def chainApartUptoRow : OpenClaim := { program := "ytpmamacjepcdmaa", sum := "a399a8c9be76be72717c737ebc128005a5b589df92c74f7201f06728248e8d9f", func := "turnstile/turnstilelaw.ChainApart", spec := "chainApart", unfollowed := true, recurses := true, plainKeys := false, apart := false, narrowed := true }
def ChainApartUptoSaid : Prop := chainApartUptoRow.holds Try.pinned (OpenSpec.upto chainApartSpec)

/-- 'turnstilelaw.LookSteps', WHERE WHAT IT READS IS OF BULK AT MOST 1048576: true; the input reads as it did. -/
def lookStepsUptoRow : OpenClaim := { program := "ytpmamacjepcdmaa", sum := "a399a8c9be76be72717c737ebc128005a5b589df92c74f7201f06728248e8d9f", func := "turnstile/turnstilelaw.LookSteps", spec := "lookSteps", unfollowed := true, recurses := true, plainKeys := false, apart := false, narrowed := true }
def LookStepsUptoSaid : Prop := lookStepsUptoRow.holds Try.pinned (OpenSpec.upto lookStepsSpec)

/-- 'turnstilelaw.DropSteps', WHERE WHAT IT READS IS OF BULK AT MOST 1048576: true; the input reads as it did. -/
def dropStepsUptoRow : OpenClaim := { program := "ytpmamacjepcdmaa", sum := "a399a8c9be76be72717c737ebc128005a5b589df92c74f7201f06728248e8d9f", func := "turnstile/turnstilelaw.DropSteps", spec := "dropSteps", unfollowed := true, recurses := true, plainKeys := false, apart := false, narrowed := true }
def DropStepsUptoSaid : Prop := dropStepsUptoRow.holds Try.pinned (OpenSpec.upto dropStepsSpec)

/-- 'turnstilelaw.AddSteps', WHERE WHAT IT READS IS OF BULK AT MOST 1048576: true; the input reads as it did. -/
def addStepsUptoRow : OpenClaim := { program := "ytpmamacjepcdmaa", sum := "a399a8c9be76be72717c737ebc128005a5b589df92c74f7201f06728248e8d9f", func := "turnstile/turnstilelaw.AddSteps", spec := "addSteps", unfollowed := true, recurses := true, plainKeys := false, apart := false, narrowed := true }
def AddStepsUptoSaid : Prop := addStepsUptoRow.holds Try.pinned (OpenSpec.upto addStepsSpec)

/-- 'turnstilelaw.SweepSteps', WHERE WHAT IT READS IS OF BULK AT MOST 1048576: true; the input reads as it did. -/
def sweepStepsUptoRow : OpenClaim := { program := "ytpmamacjepcdmaa", sum := "a399a8c9be76be72717c737ebc128005a5b589df92c74f7201f06728248e8d9f", func := "turnstile/turnstilelaw.SweepSteps", spec := "sweepSteps", unfollowed := true, recurses := true, plainKeys := false, apart := false, narrowed := true }
def SweepStepsUptoSaid : Prop := sweepStepsUptoRow.holds Try.pinned (OpenSpec.upto sweepStepsSpec)

/-- 'turnstilelaw.LookAlone', WHERE WHAT IT READS IS OF BULK AT MOST 1048576: true; the input reads as it did. -/
def lookAloneUptoRow : OpenClaim := { program := "ytpmamacjepcdmaa", sum := "a399a8c9be76be72717c737ebc128005a5b589df92c74f7201f06728248e8d9f", func := "turnstile/turnstilelaw.LookAlone", spec := "lookAlone", unfollowed := true, recurses := true, plainKeys := false, apart := false, narrowed := true }
def LookAloneUptoSaid : Prop := lookAloneUptoRow.holds Try.pinned (OpenSpec.upto lookAloneSpec)

/-- 'turnstilelaw.DropAlone', WHERE WHAT IT READS IS OF BULK AT MOST 1048576: true; the input reads as it did. -/
def dropAloneUptoRow : OpenClaim := { program := "ytpmamacjepcdmaa", sum := "a399a8c9be76be72717c737ebc128005a5b589df92c74f7201f06728248e8d9f", func := "turnstile/turnstilelaw.DropAlone", spec := "dropAlone", unfollowed := true, recurses := true, plainKeys := false, apart := false, narrowed := true }
def DropAloneUptoSaid : Prop := dropAloneUptoRow.holds Try.pinned (OpenSpec.upto dropAloneSpec)

/-- 'turnstilelaw.DropTouches', WHERE WHAT IT READS IS OF BULK AT MOST 1048576: true; the input reads as it did. -/
def dropTouchesUptoRow : OpenClaim := { program := "ytpmamacjepcdmaa", sum := "a399a8c9be76be72717c737ebc128005a5b589df92c74f7201f06728248e8d9f", func := "turnstile/turnstilelaw.DropTouches", spec := "dropTouches", unfollowed := true, recurses := true, plainKeys := false, apart := false, narrowed := true }
def DropTouchesUptoSaid : Prop := dropTouchesUptoRow.holds Try.pinned (OpenSpec.upto dropTouchesSpec)

/-- 'turnstilelaw.AddAlone', WHERE WHAT IT READS IS OF BULK AT MOST 1048576: true; the input reads as it did. -/
def addAloneUptoRow : OpenClaim := { program := "ytpmamacjepcdmaa", sum := "a399a8c9be76be72717c737ebc128005a5b589df92c74f7201f06728248e8d9f", func := "turnstile/turnstilelaw.AddAlone", spec := "addAlone", unfollowed := true, recurses := true, plainKeys := false, apart := false, narrowed := true }
def AddAloneUptoSaid : Prop := addAloneUptoRow.holds Try.pinned (OpenSpec.upto addAloneSpec)

/-- 'turnstilelaw.LookTouches', WHERE WHAT IT READS IS OF BULK AT MOST 1048576: true; the input reads as it did. -/
def lookTouchesUptoRow : OpenClaim := { program := "ytpmamacjepcdmaa", sum := "a399a8c9be76be72717c737ebc128005a5b589df92c74f7201f06728248e8d9f", func := "turnstile/turnstilelaw.LookTouches", spec := "lookTouches", unfollowed := true, recurses := true, plainKeys := false, apart := false, narrowed := true }
def LookTouchesUptoSaid : Prop := lookTouchesUptoRow.holds Try.pinned (OpenSpec.upto lookTouchesSpec)

/-- 'turnstilelaw.AddTouches', WHERE WHAT IT READS IS OF BULK AT MOST 1048576: true; the input reads as it did. -/
def addTouchesUptoRow : OpenClaim := { program := "ytpmamacjepcdmaa", sum := "a399a8c9be76be72717c737ebc128005a5b589df92c74f7201f06728248e8d9f", func := "turnstile/turnstilelaw.AddTouches", spec := "addTouches", unfollowed := true, recurses := true, plainKeys := false, apart := false, narrowed := true }
def AddTouchesUptoSaid : Prop := addTouchesUptoRow.holds Try.pinned (OpenSpec.upto addTouchesSpec)

/-- 'turnstilelaw.SweepTouches', WHERE WHAT IT READS IS OF BULK AT MOST 1048576: true; the input reads as it did. -/
def sweepTouchesUptoRow : OpenClaim := { program := "ytpmamacjepcdmaa", sum := "a399a8c9be76be72717c737ebc128005a5b589df92c74f7201f06728248e8d9f", func := "turnstile/turnstilelaw.SweepTouches", spec := "sweepTouches", unfollowed := true, recurses := true, plainKeys := false, apart := false, narrowed := true }
def SweepTouchesUptoSaid : Prop := sweepTouchesUptoRow.holds Try.pinned (OpenSpec.upto sweepTouchesSpec)

/-- 'turnstilelaw.SweepAlone', WHERE WHAT IT READS IS OF BULK AT MOST 1048576: true; the input reads as it did. -/
def sweepAloneUptoRow : OpenClaim := { program := "ytpmamacjepcdmaa", sum := "a399a8c9be76be72717c737ebc128005a5b589df92c74f7201f06728248e8d9f", func := "turnstile/turnstilelaw.SweepAlone", spec := "sweepAlone", unfollowed := true, recurses := true, plainKeys := false, apart := false, narrowed := true }
def SweepAloneUptoSaid : Prop := sweepAloneUptoRow.holds Try.pinned (OpenSpec.upto sweepAloneSpec)

/-- 'turnstilelaw.WorldRight', WHERE WHAT IT READS IS OF BULK AT MOST 1048576: true; the input reads as it did. -/
def worldRightUptoRow : OpenClaim := { program := "ytpmamacjepcdmaa", sum := "a399a8c9be76be72717c737ebc128005a5b589df92c74f7201f06728248e8d9f", func := "turnstile/turnstilelaw.WorldRight", spec := "worldRight", unfollowed := true, recurses := true, plainKeys := false, apart := false, narrowed := true }
def WorldRightUptoSaid : Prop := worldRightUptoRow.holds Try.pinned (OpenSpec.upto worldRightSpec)

/-- 'turnstilelaw.WorldHeld', WHERE WHAT IT READS IS OF BULK AT MOST 1048576: true; the input reads as it did. -/
def worldHeldUptoRow : OpenClaim := { program := "ytpmamacjepcdmaa", sum := "a399a8c9be76be72717c737ebc128005a5b589df92c74f7201f06728248e8d9f", func := "turnstile/turnstilelaw.WorldHeld", spec := "worldHeld", unfollowed := true, recurses := true, plainKeys := false, apart := false, narrowed := true }
def WorldHeldUptoSaid : Prop := worldHeldUptoRow.holds Try.pinned (OpenSpec.upto worldHeldSpec)

/-- 'turnstilelaw.WorldLocks', WHERE WHAT IT READS IS OF BULK AT MOST 1048576: true; the input reads as it did. -/
def worldLocksUptoRow : OpenClaim := { program := "ytpmamacjepcdmaa", sum := "a399a8c9be76be72717c737ebc128005a5b589df92c74f7201f06728248e8d9f", func := "turnstile/turnstilelaw.WorldLocks", spec := "worldLocks", unfollowed := true, recurses := true, plainKeys := false, apart := false, narrowed := true }
def WorldLocksUptoSaid : Prop := worldLocksUptoRow.holds Try.pinned (OpenSpec.upto worldLocksSpec)

/-- 'turnstilelaw.WorldEnds', WHERE WHAT IT READS IS OF BULK AT MOST 1048576: true; the input reads as it did. -/
def worldEndsUptoRow : OpenClaim := { program := "ytpmamacjepcdmaa", sum := "a399a8c9be76be72717c737ebc128005a5b589df92c74f7201f06728248e8d9f", func := "turnstile/turnstilelaw.WorldEnds", spec := "worldEnds", unfollowed := true, recurses := true, plainKeys := false, apart := false, narrowed := true }
def WorldEndsUptoSaid : Prop := worldEndsUptoRow.holds Try.pinned (OpenSpec.upto worldEndsSpec)

/-- 'turnstilelaw.WorldFrees', WHERE WHAT IT READS IS OF BULK AT MOST 1048576: true; the input reads as it did. -/
def worldFreesUptoRow : OpenClaim := { program := "ytpmamacjepcdmaa", sum := "a399a8c9be76be72717c737ebc128005a5b589df92c74f7201f06728248e8d9f", func := "turnstile/turnstilelaw.WorldFrees", spec := "worldFrees", unfollowed := true, recurses := true, plainKeys := false, apart := false, narrowed := true }
def WorldFreesUptoSaid : Prop := worldFreesUptoRow.holds Try.pinned (OpenSpec.upto worldFreesSpec)

/-- 'turnstilelaw.WorldRuns', WHERE WHAT IT READS IS OF BULK AT MOST 1048576: true; the input reads as it did. -/
def worldRunsUptoRow : OpenClaim := { program := "ytpmamacjepcdmaa", sum := "a399a8c9be76be72717c737ebc128005a5b589df92c74f7201f06728248e8d9f", func := "turnstile/turnstilelaw.WorldRuns", spec := "worldRuns", unfollowed := true, recurses := true, plainKeys := false, apart := false, narrowed := true }
def WorldRunsUptoSaid : Prop := worldRunsUptoRow.holds Try.pinned (OpenSpec.upto worldRunsSpec)

/-- 'turnstilelaw.WorldOwn', WHERE WHAT IT READS IS OF BULK AT MOST 1048576: true; the input reads as it did. -/
def worldOwnUptoRow : OpenClaim := { program := "ytpmamacjepcdmaa", sum := "a399a8c9be76be72717c737ebc128005a5b589df92c74f7201f06728248e8d9f", func := "turnstile/turnstilelaw.WorldOwn", spec := "worldOwn", unfollowed := true, recurses := true, plainKeys := false, apart := false, narrowed := true }
def WorldOwnUptoSaid : Prop := worldOwnUptoRow.holds Try.pinned (OpenSpec.upto worldOwnSpec)

/-- 'turnstilelaw.StorySolo', WHERE WHAT IT READS IS OF BULK AT MOST 1048576: true; the input reads as it did. -/
def storySoloUptoRow : OpenClaim := { program := "ytpmamacjepcdmaa", sum := "a399a8c9be76be72717c737ebc128005a5b589df92c74f7201f06728248e8d9f", func := "turnstile/turnstilelaw.StorySolo", spec := "storySolo", unfollowed := true, recurses := true, plainKeys := false, apart := false, narrowed := true }
def StorySoloUptoSaid : Prop := storySoloUptoRow.holds Try.pinned (OpenSpec.upto storySoloSpec)

/-- 'turnstilelaw.StoryLists', WHERE WHAT IT READS IS OF BULK AT MOST 1048576: true; the input reads as it did. -/
def storyListsUptoRow : OpenClaim := { program := "ytpmamacjepcdmaa", sum := "a399a8c9be76be72717c737ebc128005a5b589df92c74f7201f06728248e8d9f", func := "turnstile/turnstilelaw.StoryLists", spec := "storyLists", unfollowed := true, recurses := true, plainKeys := false, apart := false, narrowed := true }
def StoryListsUptoSaid : Prop := storyListsUptoRow.holds Try.pinned (OpenSpec.upto storyListsSpec)

/-- 'turnstilelaw.WorldDoes', WHERE WHAT IT READS IS OF BULK AT MOST 1048576: true; the input reads as it did. -/
def worldDoesUptoRow : OpenClaim := { program := "ytpmamacjepcdmaa", sum := "a399a8c9be76be72717c737ebc128005a5b589df92c74f7201f06728248e8d9f", func := "turnstile/turnstilelaw.WorldDoes", spec := "worldDoes", unfollowed := true, recurses := true, plainKeys := false, apart := false, narrowed := true }
def WorldDoesUptoSaid : Prop := worldDoesUptoRow.holds Try.pinned (OpenSpec.upto worldDoesSpec)

/-- 'turnstilelaw.StoryTells', WHERE WHAT IT READS IS OF BULK AT MOST 1048576: true; the input reads as it did. -/
def storyTellsUptoRow : OpenClaim := { program := "ytpmamacjepcdmaa", sum := "a399a8c9be76be72717c737ebc128005a5b589df92c74f7201f06728248e8d9f", func := "turnstile/turnstilelaw.StoryTells", spec := "storyTells", unfollowed := true, recurses := true, plainKeys := false, apart := false, narrowed := true }
def StoryTellsUptoSaid : Prop := storyTellsUptoRow.holds Try.pinned (OpenSpec.upto storyTellsSpec)

end Rows
end Go.Proofs.Ytpmamacjepcdmaa
