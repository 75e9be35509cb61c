/- For exploring alone: never in a claim. -/
import Derived.WalkKit
namespace Go
open Lean Elab Tactic Meta
/-- prints the goals short: at a call its function, arguments and world; at a list of operations the first one and the world; else the goal cut. Hypotheses: the propositions that are no continuation. -/
elab "look" : tactic => do
  let gs ← getGoals
  let mut n : Nat := 0
  for g in gs do
    n := n + 1
    g.withContext do
      let t := (← instantiateMVars (← g.getType)).consumeMData
      let mut hyps : Array MessageData := #[]
      for d in ← getLCtx do
        if d.isImplementationDetail then continue
        let ty ← instantiateMVars d.type
        if !(← isProp ty) then continue
        if ty.getForallBody.getAppFn.isFVar then continue
        hyps := hyps.push m!"  {d.userName} : {ty}"
      let hs := MessageData.joinSep hyps.toList "\n"
      if t.isAppOf ``Go.Calls then
        let a := t.getAppArgs
        logInfo m!"[{n}/{gs.length}] CALL {a[1]!} {a[2]!}\n  WORLD {a[3]!}\n{hs}"
      else if t.isAppOf ``Go.wpList then
        let a := t.getAppArgs
        let o := if a[3]!.isAppOf ``List.cons then a[3]!.getAppArgs[1]! else a[3]!
        logInfo m!"[{n}/{gs.length}] OP {o}\n  ACT {a[4]!}\n WORLD {a[5]!}\n{hs}"
      else if t.isAppOf ``Go.bodyPost then
        let a := t.getAppArgs
        logInfo m!"[{n}/{gs.length}] END {a[3]!} ACT {a[4]!}\n WORLD {a[5]!}\n{hs}"
      else if t.isAppOf ``Go.Code.wp then
        let a := t.getAppArgs
        logInfo m!"[{n}/{gs.length}] CODE {a[1]!.getAppFn} ACT {a[3]!}\n WORLD {a[4]!}\n{hs}"
      else logInfo m!"[{n}/{gs.length}] {t.getAppFn} GOAL {t}\n{hs}"
elab "lk" : tactic => do
  let gs ← getGoals
  let mut n : Nat := 0
  for g in gs do
    n := n + 1
    g.withContext do
      let t := (← instantiateMVars (← g.getType)).consumeMData
      let mut hyps : Array MessageData := #[]
      for d in ← getLCtx do
        if d.isImplementationDetail then continue
        let ty ← instantiateMVars d.type
        if !(← isProp ty) then continue
        if ty.getForallBody.getAppFn.isFVar then continue
        hyps := hyps.push m!"{ty}"
      let _hs := hyps
      if t.isAppOf ``Go.Calls then
        let a := t.getAppArgs
        logInfo m!"[{n}/{gs.length}] CALL {a[1]!} {a[2]!}\n  WORLD {a[3]!}"
      else if t.isAppOf ``Go.wpList then
        let a := t.getAppArgs
        let o := if a[3]!.isAppOf ``List.cons then a[3]!.getAppArgs[1]! else a[3]!
        logInfo m!"[{n}/{gs.length}] OP {o}\n  ACT {a[4]!}\n WORLD {a[5]!}"
      else if t.isAppOf ``Go.bodyPost then
        let a := t.getAppArgs
        logInfo m!"[{n}/{gs.length}] END {a[3]!} ACT {a[4]!}\n WORLD {a[5]!}"
      else if t.isAppOf ``Go.Code.wp then
        let a := t.getAppArgs
        logInfo m!"[{n}/{gs.length}] CODE {a[1]!.getAppFn} ACT {a[3]!}\n WORLD {a[4]!}"
      else logInfo m!"[{n}/{gs.length}] {t.getAppFn} GOAL {t}"
/-- prints the frame's slots from a to b -/
elab "slots " a:num b:num : tactic => withMainContext do
  let t := (← instantiateMVars (← (← getMainGoal).getType)).consumeMData
  let acts := t.getAppArgs.filter (fun e => e.isAppOf ``Go.Act.mk)
  let some act := acts[0]? | throwError "no frame"
  let arr := act.getArg! 0
  let some es := Go.listElems (arr.getArg! 1) | throwError "no list"
  let mut o : Array MessageData := #[]
  for i in [a.getNat : b.getNat + 1] do
    if let some e := es[i]? then o := o.push m!"{i}: {e}"
  logInfo (MessageData.joinSep o.toList "\n")
end Go
