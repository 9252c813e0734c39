/- PROVED: ProofBoth, whatever the input: a fork proves it in either order of its words; with a word changed it proves something just where the document says so. The row lists the two tables of SHA-256 as the program's text lays them; the card ties them to it. No other condition. -/
import Derived.Test.YtfgdeogphflimaaGreatDoorCards
import Derived.Test.YtfgdeogphflimaaGreatDoorTie
import Derived.Test.YtfgdeogphflimaaGreatDoorERead
import Derived.Test.YtfgdeogphflimaaGreatDoorB4
set_option linter.unusedVariables false
set_option linter.unusedSimpArgs false
namespace Go.Proofs.YtfgdeogphflimaaGreatDoor
open Go Go.Eng Go.ChangeShapes Go.WideShapes Go.ChangeAt Go.RowKit

theorem own : ownKnob Tryz.prog.godebug = Option.none := by kernel_rfl
theorem types_ok : ((List.range Tryz.prog.types.size).all fun t => okT Tryz.prog t) = true := by kernel_rfl
theorem hz : OkTypes Tryz.prog := fun t ht => List.all_eq_true.1 types_ok t (List.mem_range.2 ht)
theorem in_table {l : List TypeId} (h : (l.all fun t => Nat.blt t Tryz.prog.types.size) = true) : ∀ t ∈ l, t < Tryz.prog.types.size := fun t ht => by simpa using List.all_eq_true.1 h t ht

/-! ### The tables -/
theorem gStart : Tryz.prog.globalNamed "tribunal/sha.start" = some 0 := by kernel_rfl
theorem gRound : Tryz.prog.globalNamed "tribunal/sha.round" = some 2 := by kernel_rfl
theorem tStart : (Tryz.prog.globals[0]?).map (·.type) = some 297 := by kernel_rfl
theorem tRound : (Tryz.prog.globals[2]?).map (·.type) = some 320 := by kernel_rfl
theorem c211 : Tryz.prog.cellsOf 211 = 1 := by kernel_rfl
theorem c297 : Tryz.prog.cellsOf 297 = 8 := by kernel_rfl
theorem c320 : Tryz.prog.cellsOf 320 = 64 := by kernel_rfl
theorem eStart : (Rows.laid_tribunal_sha_start : DataW Unit) = Lib.tabData .u32 (startL.map fun x => (x.toNat : Int)) := by kernel_rfl
theorem eRound : (Rows.laid_tribunal_sha_round : DataW Unit) = Lib.tabData .u32 (roundL.map fun x => (x.toNat : Int)) := by kernel_rfl
theorem tables {W : World} (h : laidMet Tryz.prog [("tribunal/sha.start", Rows.laid_tribunal_sha_start), ("tribunal/sha.round", Rows.laid_tribunal_sha_round)] W) : Laid W := by
  obtain ⟨ps, hv, _⟩ := h
  rw [eStart, eRound] at hv
  obtain ⟨h1, q, hv⟩ := laid_head gStart tStart ti297.und ti211.und c211 c297 hv
  obtain ⟨h2, _⟩ := laid_head gRound tRound ti320.und ti211.und c211 c320 hv
  refine ⟨?_, ?_⟩
  · have e : flat [sgW startW] = (startL.map fun x => (x.toNat : Int)).map fun z => Value.int .u32 z := by simp [flat, sgW, startW]
    rw [e]; exact h1
  · have e : flat [sgW roundW] = (roundL.map fun x => (x.toNat : Int)).map fun z => Value.int .u32 z := by simp [flat, sgW, roundW]
    rw [e]; exact h2
theorem keeps {W : World} (h : Laid W) : Know Nobody W Laid := fun w' hc =>
  ⟨row_same (fun b hb => hc.block b hb id) h.start, row_same (fun b hb => hc.block b hb id) h.round⟩
/-- A world for a witness: the settled one, the tables holding what their initialisers lay. -/
def layIn (cs : Array Value) : Obj → Obj
  | .cells _ t frozen => .cells cs t frozen
  | o => o
noncomputable def laidWorld (os : Os) : World :=
  { World.holding Tryz.prog os ⟨#[], #[], []⟩ with heap := ((World.holding Tryz.prog os ⟨#[], #[], []⟩).heap.modify 0 (layIn (startL.map fun x => U32 x).toArray)).modify 2 (layIn (roundL.map fun x => U32 x).toArray) }

namespace proofBoth
theorem ps : Tryz.f6.params = #[3, 23, 23, 3, 5] := by kernel_rfl
theorem rs : Tryz.f6.resultTypes = #[4] := by kernel_rfl
theorem c5 : Tryz.prog.cellsOf 5 = 1 := by kernel_rfl
theorem c23 : Tryz.prog.cellsOf 23 = 32 := by kernel_rfl
set_option maxRecDepth 100000 in
theorem contract (H : Type) (enc : TypeId × Value → H) (W : World) (base : Nat) (args : Array Value) (ds gs : List (DataW H)) (before : List MemPlace)
    (hval : ∀ (j : Nat) t v, Tryz.f6.params[j]? = some t → args[j]? = some v → Value.okWide Tryz.prog W .any base t v)
    (hW : DataW.Whole enc Tryz.prog Tryz.f6.params.toList Rows.proofBothSpec.vars false W args.toList ds gs before) (hL : laidMet Tryz.prog Rows.proofBothRow.laid W) :
    Calls Tryz.prog 6 args W fun e W' => ∃ v, e = .returned v ∧ Rows.proofBothSpec.post enc Tryz.prog Tryz.f6 false true false false W args v W' := by
  have hW' := hW
  obtain ⟨p, q, hA, hV, rfl, _, _⟩ := hW
  rw [ps] at hA
  have hv0 : ∀ (j : Nat) t v, (#[3, 23, 23, 3, 5] : Array TypeId)[j]? = some t → args[j]? = some v → Value.okWide Tryz.prog W .any base t v := fun j t v h1 h2 => hval j t v (by rw [ps]; exact h1) h2
  clear hval
  obtain ⟨v0, vs0, d0, ds0, p0, q0, e0, rfl, rfl, h0, hA⟩ := trodAll_cons hA
  obtain ⟨v1, vs1, d1, ds1, p1, q1, rfl, rfl, rfl, h1, hA⟩ := trodAll_cons hA
  obtain ⟨v2, vs2, d2, ds2, p2, q2, rfl, rfl, rfl, h2, hA⟩ := trodAll_cons hA
  obtain ⟨v3, vs3, d3, ds3, p3, q3, rfl, rfl, rfl, h3, hA⟩ := trodAll_cons hA
  obtain ⟨v4, vs4, d4, ds4, p4, q4, rfl, rfl, rfl, h4, hA⟩ := trodAll_cons hA
  obtain ⟨rfl, rfl, rfl⟩ := trodAll_nil hA
  obtain rfl : args = #[v0, v1, v2, v3, v4] := by cases args; simp_all
  obtain ⟨rfl, rfl⟩ := trodVars_none hV
  obtain ⟨seq, rfl, _, _, _⟩ := open_int ti3.und (hv0 0 3 v0 rfl rfl) h0
  obtain ⟨a, rfl⟩ := open_bytesA ti23.und ti5.und c5 c23 (hv0 1 23 v1 rfl rfl) h1
  obtain ⟨b, rfl⟩ := open_bytesA ti23.und ti5.und c5 c23 (hv0 2 23 v2 rfl rfl) h2
  obtain ⟨at_, rfl, _, _, _⟩ := open_int ti3.und (hv0 3 3 v3 rfl rfl) h3
  obtain ⟨c, rfl⟩ := open_u8 ti5.und (hv0 4 5 v4 rfl rfl) h4
  have hl : Laid W := tables hL
  refine (c6 seq at_ a b c Nobody [_, _, _, _, _] W (fun _ h => h.elim) (keeps hl) (fun w' _ => ⟨rfl, rfl, rfl, rfl, rfl, trivial⟩)).mono ?_
  rintro e W' ⟨v, rfl, hc, hv⟩
  obtain rfl : v = .bool true := hv.now
  exact ⟨_, rfl, post_law hz (in_table (by kernel_rfl)) hW' rfl rfl rs ti4.und hc⟩

theorem laid_met (os : Os) (args : Array Value) : laidMet Tryz.prog Rows.proofBothRow.laid ((laidWorld os).forCall (fun _ _ => 0) ⟨#[], args, []⟩).memory :=
  laidMet_of_run' 8 (by kernel_rfl) (by kernel_rfl)
def zargs : Array Value := #[.int .i64 0, .agg (Array.replicate 32 (.int .u8 0)), .agg (Array.replicate 32 (.int .u8 0)), .int .i64 0, .int .u8 0]
def zdata {H : Type} : List (DataW H) := [.lit (.int .i64 0), .agg (List.replicate 32 (.lit (.int .u8 0))), .agg (List.replicate 32 (.lit (.int .u8 0))), .lit (.int .i64 0), .lit (.int .u8 0)]
theorem reads (os : Os) {H : Type} (enc : TypeId × Value → H) : DataW.whole enc Tryz.prog ((laidWorld os).forCall (fun _ _ => 0) ⟨#[], zargs, []⟩).memory Tryz.f6.params.toList Rows.proofBothSpec.vars false zargs.toList 8 = some (zdata, [], []) := by kernel_rfl

set_option maxRecDepth 100000 in
theorem lifted (os : Os) (started : os.Started) (H : Type) (enc : TypeId × Value → H) (F : Stop.Interp) :
    ReturnsInHanded {} Tryz.checked os 6 .any ((OpenSpec.ofChange Rows.proofBothSpec).preRow enc Tryz.prog Tryz.f6 Rows.proofBothRow.domain false Rows.proofBothRow.laid) (((OpenSpec.ofChange Rows.proofBothSpec).at F).post enc Tryz.prog Tryz.f6 false true false false) := by
  refine returnsInHanded_of_row (C := Tryz.checked) (s := OpenSpec.ofChange Rows.proofBothSpec) own started (by kernel_rfl) Tryz.func6
    (witness_row_at (enc := enc) (C := Tryz.checked) false (laidWorld os) zargs rfl (by kernel_rfl) (by kernel_rfl) (by kernel_rfl)
      (OpenSpec.preRow_of_cond 8 (reads os enc) (by kernel_rfl) (fun k hk => by cases hk) (by kernel_rfl) (laid_met os zargs))) ?_
  intro W base args ds gs before hval hW _ _ _ hL _ _
  exact contract H enc W base args ds gs before hval hW hL

theorem said : Rows.ProofBothSaid :=
  OpenClaim.holds_of_cond 6 Tryz.f6 rfl rfl rfl rfl rfl rfl rfl ⟨rfl, rfl, rfl, rfl, rfl⟩ rfl rfl rfl rfl rfl (by kernel_rfl) Tryz.func6 (by kernel_rfl)
    (of_decide_eq_true (by kernel_rfl)) (by unfold Func.isWrapper; first | (rw [if_pos (by decide +kernel)]; kernel_rfl) | (rw [if_neg (by decide +kernel)]; exact ⟨rfl, rfl⟩))
    (fun os started H enc _ F => by rw [OpenClaim.pre_eq_preRow]; exact lifted os started H enc F)

theorem plain (f : FuncId) (fn : Func) (hf : Tryz.pinned.checked.prog.funcNamed "tribunal/tribunallaw22.ProofBoth" = some f) (hfn : Tryz.pinned.checked.prog.funcs[f]? = some fn) :
    false = Tryz.pinned.checked.prog.looks [] ∧ ∀ (j : Nat) t, fn.params[j]? = some t → Tryz.pinned.checked.prog.wantsStandIn t = false := by
  obtain rfl : f = 6 := Option.some.inj ((show Tryz.prog.funcNamed "tribunal/tribunallaw22.ProofBoth" = some 6 by kernel_rfl).symm.trans hf) |>.symm
  obtain rfl : fn = Tryz.f6 := (Option.some.inj (Tryz.func6.symm.trans hfn)).symm
  refine ⟨by kernel_rfl, fun j t ht => ?_⟩
  rw [ps] at ht
  have hm : ∀ t ∈ ([3, 23, 23, 3, 5] : List TypeId), Tryz.prog.wantsStandIn t = false := by
    have : ([3, 23, 23, 3, 5] : List TypeId).all (fun t => !Tryz.prog.wantsStandIn t) = true := by kernel_rfl
    intro t ht
    simpa using List.all_eq_true.1 this t ht
  exact hm t (by simpa using Array.mem_of_getElem? ht)
end proofBoth

/-- THE CARD. -/
theorem ProofBothCard : Rows.ProofBothCardSaid :=
  Claim7.holds_tied_plain_at .later [] _ _ _ _ proofBoth.said (fun _ h => by cases h) (by kernel_rfl) (fun _ h => by cases h) proofBoth_row_tie rfl ⟨rfl, rfl⟩ (by kernel_rfl) rfl proofBoth.plain (by kernel_rfl)
end Go.Proofs.YtfgdeogphflimaaGreatDoor
