/- TarForms: at every list of entries whatsoever the law TarForms of the given program answers true: an archive that is written is a row of blocks, headers and filled-up bytes, with extended records just where a field does not fit its header. Conditions: none beyond the card's own. -/
import Derived.Test.YtambgnjkakdoeaaGreatDoorForms13
import Derived.Below
import Derived.Carry
import Derived.ChangeArms
import Derived.ChangeSame
import Derived.ChangeSlices
import Derived.Deep.Fields
import Derived.Deep.Slices
import Derived.Ground.NamesProg
import Derived.LaidMore
import Derived.Lay
import Derived.Lib.BytesEntry
import Derived.Lib.LaidTab
import Derived.Lib.LaidU8T
import Derived.OpenShut
import Derived.ProofKit
import Derived.SevenTiedAt
import Derived.Shelf.Strconv.AtoiAll
import Derived.Shelf.Strconv.Itoa4
import Derived.Shelf.Unicode.ValidAny
import Derived.Stop.Joined
import Derived.Test.YtambgnjkakdoeaaGreatDoorCards
import Derived.Test.YtambgnjkakdoeaaGreatDoorProg
import Derived.Test.YtambgnjkakdoeaaGreatDoorTie
import Derived.WalkKit
import Derived.WideShapes
set_option linter.unusedVariables false
set_option linter.unusedSimpArgs false
set_option linter.unusedSectionVars false
/-
  DERIVED: THE SHELF's CONTRACTS AT THIS DUMP, IN PLAIN WORDS (tools/lay-plain.mjs out of 'TryzShelf.lean', which tools/lay-shelf.mjs wrote): THE SAME DECLARATIONS UNDER THE SAME NAMES: 'import', 'namespace', 'open', 'def', 'theorem' AND NOTHING ELSE: no command of the shelf's: FOR A HAND-IN. Each laying: the table of numbers ('.._ren') and one theorem, a field a fact of the dump's own or the kernel's comparison; each contract: ONE APPLICATION.
-/
namespace Go.Proofs
open Go.Shelf
def Tryz.laysValid_ren : Go.Shelf.Ren := ⟨fun | 196 => 191 | 259 => 226 | n => n, fun | 9 => 9 | 4 => 4 | 3 => 3 | 5 => 5 | 12 => 12 | 119 => 252 | 0 => 0 | 46 => 78 | 139 => 255 | 138 => 254 | 53 => 80 | n => n, fun | 3 => 2 | 4 => 3 | n => n⟩
theorem Tryz.laysValid : Go.Proofs.Lays.n196 Tryz.prog Tryz.laysValid_ren := {
  mixed := by kernel_rfl
  f196 := Tryz.func191.trans (congrArg some (by kernel_rfl))
  f259 := Tryz.func226.trans (congrArg some (by kernel_rfl))
  t0 := Tryz.underlying0
  a0 := Tryz.isAgg0
  z0 := Tryz.sizeOf0
  v0 := Tryz.zeroValue0
  t3 := Tryz.underlying3
  a3 := Tryz.isAgg3
  z3 := Tryz.sizeOf3
  v3 := Tryz.zeroValue3
  t4 := Tryz.underlying4
  a4 := Tryz.isAgg4
  z4 := Tryz.sizeOf4
  v4 := Tryz.zeroValue4
  t5 := Tryz.underlying5
  a5 := Tryz.isAgg5
  z5 := Tryz.sizeOf5
  v5 := Tryz.zeroValue5
  t9 := Tryz.underlying9
  a9 := Tryz.isAgg9
  z9 := Tryz.sizeOf9
  v9 := Tryz.zeroValue9
  t12 := Tryz.underlying12
  a12 := Tryz.isAgg12
  z12 := Tryz.sizeOf12
  v12 := Tryz.zeroValue12
  t46 := Tryz.underlying78
  a46 := Tryz.isAgg78
  z46 := Tryz.sizeOf78
  v46 := Tryz.zeroValue78
  t53 := Tryz.underlying80
  a53 := Tryz.isAgg80
  z53 := Tryz.sizeOf80
  v53 := Tryz.zeroValue80
  t119 := Tryz.underlying252
  a119 := Tryz.isAgg252
  z119 := Tryz.sizeOf252
  t138 := Tryz.underlying254
  a138 := Tryz.isAgg254
  z138 := Tryz.sizeOf254
  v138 := Tryz.zeroValue254
  t139 := Tryz.underlying255
  a139 := Tryz.isAgg255
  z139 := Tryz.sizeOf255
  v139 := Tryz.zeroValue255
  g3 := by kernel_rfl
  g4 := by kernel_rfl }
def Tryz.laysItoa_ren : Go.Shelf.Ren := ⟨fun | 243 => 98 | 246 => 142 | 283 => 183 | 284 => 184 | 285 => 185 | 286 => 186 | 129 => 174 | 317 => 219 | 318 => 220 | 319 => 221 | 320 => 222 | 337 => 243 | 338 => 244 | n => n, fun | 3 => 3 | 9 => 9 | 2 => 2 | 4 => 4 | 171 => 217 | 0 => 0 | 53 => 80 | 37 => 26 | 5 => 5 | 173 => 219 | 212 => 247 | 51 => 205 | 20 => 20 | 213 => 248 | 46 => 78 | 232 => 282 | 233 => 283 | n => n, fun | 17 => 1 | 18 => 6 | 19 => 7 | n => n⟩
theorem Tryz.laysItoa : Go.Proofs.LaysM.n243 Tryz.prog Tryz.laysItoa_ren := {
  mixed := by kernel_rfl
  f129 := Tryz.func174.trans (congrArg some (by kernel_rfl))
  f243 := Tryz.func98.trans (congrArg some (by kernel_rfl))
  f246 := Tryz.func142.trans (congrArg some (by kernel_rfl))
  f283 := Tryz.func183.trans (congrArg some (by kernel_rfl))
  f284 := Tryz.func184.trans (congrArg some (by kernel_rfl))
  f285 := Tryz.func185.trans (congrArg some (by kernel_rfl))
  f286 := Tryz.func186.trans (congrArg some (by kernel_rfl))
  f317 := Tryz.func219.trans (congrArg some (by kernel_rfl))
  f318 := Tryz.func220.trans (congrArg some (by kernel_rfl))
  f319 := Tryz.func221.trans (congrArg some (by kernel_rfl))
  f320 := Tryz.func222.trans (congrArg some (by kernel_rfl))
  f337 := Tryz.func243.trans (congrArg some (by kernel_rfl))
  f338 := Tryz.func244.trans (congrArg some (by kernel_rfl))
  t0 := Tryz.underlying0
  a0 := Tryz.isAgg0
  z0 := Tryz.sizeOf0
  v0 := Tryz.zeroValue0
  t2 := Tryz.underlying2
  a2 := Tryz.isAgg2
  z2 := Tryz.sizeOf2
  v2 := Tryz.zeroValue2
  t3 := Tryz.underlying3
  a3 := Tryz.isAgg3
  z3 := Tryz.sizeOf3
  v3 := Tryz.zeroValue3
  t4 := Tryz.underlying4
  a4 := Tryz.isAgg4
  z4 := Tryz.sizeOf4
  v4 := Tryz.zeroValue4
  t5 := Tryz.underlying5
  a5 := Tryz.isAgg5
  z5 := Tryz.sizeOf5
  v5 := Tryz.zeroValue5
  t9 := Tryz.underlying9
  a9 := Tryz.isAgg9
  z9 := Tryz.sizeOf9
  v9 := Tryz.zeroValue9
  t20 := Tryz.underlying20
  a20 := Tryz.isAgg20
  z20 := Tryz.sizeOf20
  v20 := Tryz.zeroValue20
  t37 := Tryz.underlying26
  a37 := Tryz.isAgg26
  z37 := Tryz.sizeOf26
  v37 := Tryz.zeroValue26
  t46 := Tryz.underlying78
  a46 := Tryz.isAgg78
  z46 := Tryz.sizeOf78
  v46 := Tryz.zeroValue78
  t51 := Tryz.underlying205
  a51 := Tryz.isAgg205
  z51 := Tryz.sizeOf205
  v51 := Tryz.zeroValue205
  t53 := Tryz.underlying80
  a53 := Tryz.isAgg80
  z53 := Tryz.sizeOf80
  v53 := Tryz.zeroValue80
  t171 := Tryz.underlying217
  a171 := Tryz.isAgg217
  z171 := Tryz.sizeOf217
  v171 := Tryz.zeroValue217
  t173 := Tryz.underlying219
  a173 := Tryz.isAgg219
  z173 := Tryz.sizeOf219
  v173 := Tryz.zeroValue219
  t212 := Tryz.underlying247
  a212 := Tryz.isAgg247
  z212 := Tryz.sizeOf247
  v212 := Tryz.zeroValue247
  t213 := Tryz.underlying248
  a213 := Tryz.isAgg248
  z213 := Tryz.sizeOf248
  t232 := Tryz.underlying282
  a232 := Tryz.isAgg282
  z232 := Tryz.sizeOf282
  v232 := Tryz.zeroValue282
  t233 := Tryz.underlying283
  a233 := Tryz.isAgg283
  z233 := Tryz.sizeOf283
  v233 := Tryz.zeroValue283
  g17 := by kernel_rfl
  g18 := by kernel_rfl
  g19 := by kernel_rfl
  i0 := by kernel_rfl
  i2 := by kernel_rfl
  i3 := by kernel_rfl
  i4 := by kernel_rfl
  i5 := by kernel_rfl
  i9 := by kernel_rfl
  i20 := by kernel_rfl
  i37 := by kernel_rfl
  i46 := by kernel_rfl
  i51 := by kernel_rfl
  i53 := by kernel_rfl
  i171 := by kernel_rfl
  i173 := by kernel_rfl
  i212 := by kernel_rfl
  i232 := by kernel_rfl
  i233 := by kernel_rfl
  m17 := by kernel_rfl
  m18 := by kernel_rfl
  m19 := by kernel_rfl }
def Tryz.laysAtoi_ren : Go.Shelf.Ren := ⟨fun | 172 => 118 | 244 => 153 | 245 => 154 | 247 => 197 | 279 => 198 | 280 => 199 | 281 => 200 | 282 => 201 | 287 => 230 | 316 => 231 | 171 => 56 | 205 => 232 | 321 => 248 | 322 => 249 | 243 => 98 | 246 => 142 | 283 => 183 | 284 => 184 | 285 => 185 | 286 => 186 | 129 => 174 | 317 => 219 | 318 => 220 | 319 => 221 | 320 => 222 | 337 => 243 | 338 => 244 | n => n, fun | 9 => 9 | 3 => 3 | 75 => 28 | 76 => 54 | 4 => 4 | 5 => 5 | 167 => 224 | 37 => 26 | 0 => 0 | 85 => 225 | 2 => 2 | 168 => 227 | 53 => 80 | 175 => 242 | 46 => 78 | 210 => 261 | 127 => 277 | 145 => 280 | 143 => 278 | 21 => 21 | 171 => 217 | 173 => 219 | 212 => 247 | 51 => 205 | 20 => 20 | 213 => 248 | 232 => 282 | 233 => 283 | 80 => 269 | n => n, fun | 15 => 4 | 16 => 5 | 17 => 1 | 18 => 6 | 19 => 7 | n => n⟩
theorem Tryz.laysAtoi : Go.Proofs.LaysC.n172 Tryz.prog Tryz.laysAtoi_ren := {
  mixed := by kernel_rfl
  f129 := Tryz.func174.trans (congrArg some (by kernel_rfl))
  f171 := Tryz.func56.trans (congrArg some (by kernel_rfl))
  f172 := Tryz.func118.trans (congrArg some (by kernel_rfl))
  f205 := Tryz.func232.trans (congrArg some (by kernel_rfl))
  f243 := Tryz.func98.trans (congrArg some (by kernel_rfl))
  f244 := Tryz.func153.trans (congrArg some (by kernel_rfl))
  f245 := Tryz.func154.trans (congrArg some (by kernel_rfl))
  f246 := Tryz.func142.trans (congrArg some (by kernel_rfl))
  f247 := Tryz.func197.trans (congrArg some (by kernel_rfl))
  f279 := Tryz.func198.trans (congrArg some (by kernel_rfl))
  f280 := Tryz.func199.trans (congrArg some (by kernel_rfl))
  f281 := Tryz.func200.trans (congrArg some (by kernel_rfl))
  f282 := Tryz.func201.trans (congrArg some (by kernel_rfl))
  f283 := Tryz.func183.trans (congrArg some (by kernel_rfl))
  f284 := Tryz.func184.trans (congrArg some (by kernel_rfl))
  f285 := Tryz.func185.trans (congrArg some (by kernel_rfl))
  f286 := Tryz.func186.trans (congrArg some (by kernel_rfl))
  f287 := Tryz.func230.trans (congrArg some (by kernel_rfl))
  f316 := Tryz.func231.trans (congrArg some (by kernel_rfl))
  f317 := Tryz.func219.trans (congrArg some (by kernel_rfl))
  f318 := Tryz.func220.trans (congrArg some (by kernel_rfl))
  f319 := Tryz.func221.trans (congrArg some (by kernel_rfl))
  f320 := Tryz.func222.trans (congrArg some (by kernel_rfl))
  f321 := Tryz.func248.trans (congrArg some (by kernel_rfl))
  f322 := Tryz.func249.trans (congrArg some (by kernel_rfl))
  f337 := Tryz.func243.trans (congrArg some (by kernel_rfl))
  f338 := Tryz.func244.trans (congrArg some (by kernel_rfl))
  t0 := Tryz.underlying0
  a0 := Tryz.isAgg0
  z0 := Tryz.sizeOf0
  v0 := Tryz.zeroValue0
  t2 := Tryz.underlying2
  a2 := Tryz.isAgg2
  z2 := Tryz.sizeOf2
  v2 := Tryz.zeroValue2
  t3 := Tryz.underlying3
  a3 := Tryz.isAgg3
  z3 := Tryz.sizeOf3
  v3 := Tryz.zeroValue3
  t4 := Tryz.underlying4
  a4 := Tryz.isAgg4
  z4 := Tryz.sizeOf4
  v4 := Tryz.zeroValue4
  t5 := Tryz.underlying5
  a5 := Tryz.isAgg5
  z5 := Tryz.sizeOf5
  v5 := Tryz.zeroValue5
  t9 := Tryz.underlying9
  a9 := Tryz.isAgg9
  z9 := Tryz.sizeOf9
  v9 := Tryz.zeroValue9
  t20 := Tryz.underlying20
  a20 := Tryz.isAgg20
  z20 := Tryz.sizeOf20
  v20 := Tryz.zeroValue20
  t21 := Tryz.underlying21
  a21 := Tryz.isAgg21
  z21 := Tryz.sizeOf21
  v21 := Tryz.zeroValue21
  t37 := Tryz.underlying26
  a37 := Tryz.isAgg26
  z37 := Tryz.sizeOf26
  v37 := Tryz.zeroValue26
  t46 := Tryz.underlying78
  a46 := Tryz.isAgg78
  z46 := Tryz.sizeOf78
  v46 := Tryz.zeroValue78
  t51 := Tryz.underlying205
  a51 := Tryz.isAgg205
  z51 := Tryz.sizeOf205
  v51 := Tryz.zeroValue205
  t53 := Tryz.underlying80
  a53 := Tryz.isAgg80
  z53 := Tryz.sizeOf80
  v53 := Tryz.zeroValue80
  t75 := Tryz.underlying28
  a75 := Tryz.isAgg28
  z75 := Tryz.sizeOf28
  v75 := Tryz.zeroValue28
  t76 := Tryz.underlying54
  a76 := Tryz.isAgg54
  z76 := Tryz.sizeOf54
  v76 := Tryz.zeroValue54
  t85 := Tryz.underlying225
  a85 := Tryz.isAgg225
  z85 := Tryz.sizeOf225
  v85 := Tryz.zeroValue225
  t127 := Tryz.underlying277
  a127 := Tryz.isAgg277
  z127 := Tryz.sizeOf277
  v127 := Tryz.zeroValue277
  t143 := Tryz.underlying278
  a143 := Tryz.isAgg278
  z143 := Tryz.sizeOf278
  v143 := Tryz.zeroValue278
  t145 := Tryz.underlying280
  a145 := Tryz.isAgg280
  z145 := Tryz.sizeOf280
  v145 := Tryz.zeroValue280
  t167 := Tryz.underlying224
  a167 := Tryz.isAgg224
  z167 := Tryz.sizeOf224
  v167 := Tryz.zeroValue224
  t168 := Tryz.underlying227
  a168 := Tryz.isAgg227
  z168 := Tryz.sizeOf227
  v168 := Tryz.zeroValue227
  t171 := Tryz.underlying217
  a171 := Tryz.isAgg217
  z171 := Tryz.sizeOf217
  v171 := Tryz.zeroValue217
  t173 := Tryz.underlying219
  a173 := Tryz.isAgg219
  z173 := Tryz.sizeOf219
  v173 := Tryz.zeroValue219
  t175 := Tryz.underlying242
  a175 := Tryz.isAgg242
  z175 := Tryz.sizeOf242
  v175 := Tryz.zeroValue242
  t210 := Tryz.underlying261
  a210 := Tryz.isAgg261
  z210 := Tryz.sizeOf261
  v210 := Tryz.zeroValue261
  t212 := Tryz.underlying247
  a212 := Tryz.isAgg247
  z212 := Tryz.sizeOf247
  v212 := Tryz.zeroValue247
  t213 := Tryz.underlying248
  a213 := Tryz.isAgg248
  z213 := Tryz.sizeOf248
  t232 := Tryz.underlying282
  a232 := Tryz.isAgg282
  z232 := Tryz.sizeOf282
  v232 := Tryz.zeroValue282
  t233 := Tryz.underlying283
  a233 := Tryz.isAgg283
  z233 := Tryz.sizeOf283
  v233 := Tryz.zeroValue283
  g15 := by kernel_rfl
  g16 := by kernel_rfl
  g17 := by kernel_rfl
  g18 := by kernel_rfl
  g19 := by kernel_rfl
  t80 := Tryz.underlying269
  a80 := Tryz.isAgg269
  z80 := Tryz.sizeOf269
  v80 := Tryz.zeroValue269
  i0 := by kernel_rfl
  i2 := by kernel_rfl
  i3 := by kernel_rfl
  i4 := by kernel_rfl
  i5 := by kernel_rfl
  i9 := by kernel_rfl
  i20 := by kernel_rfl
  i21 := by kernel_rfl
  i37 := by kernel_rfl
  i46 := by kernel_rfl
  i51 := by kernel_rfl
  i53 := by kernel_rfl
  i75 := by kernel_rfl
  i76 := by kernel_rfl
  i80 := by kernel_rfl
  i85 := by kernel_rfl
  i127 := by kernel_rfl
  i143 := by kernel_rfl
  i145 := by kernel_rfl
  i167 := by kernel_rfl
  i168 := by kernel_rfl
  i171 := by kernel_rfl
  i173 := by kernel_rfl
  i175 := by kernel_rfl
  i210 := by kernel_rfl
  i212 := by kernel_rfl
  i232 := by kernel_rfl
  i233 := by kernel_rfl
  m15 := by kernel_rfl
  m16 := by kernel_rfl
  m17 := by kernel_rfl
  m18 := by kernel_rfl
  m19 := by kernel_rfl
  c0 := by kernel_rfl
  c2 := by kernel_rfl
  c3 := by kernel_rfl
  c4 := by kernel_rfl
  c5 := by kernel_rfl
  c9 := by kernel_rfl
  c20 := by kernel_rfl
  c21 := by kernel_rfl
  c37 := by kernel_rfl
  c46 := by kernel_rfl
  c51 := by kernel_rfl
  c53 := by kernel_rfl
  c75 := by kernel_rfl
  c76 := by kernel_rfl
  c80 := by kernel_rfl
  c85 := by kernel_rfl
  c127 := by kernel_rfl
  c143 := by kernel_rfl
  c145 := by kernel_rfl
  c167 := by kernel_rfl
  c168 := by kernel_rfl
  c171 := by kernel_rfl
  c173 := by kernel_rfl
  c175 := by kernel_rfl
  c210 := by kernel_rfl
  c212 := by kernel_rfl
  c213 := by kernel_rfl
  c232 := by kernel_rfl
  c233 := by kernel_rfl }
end Go.Proofs
/- THE PROGRAM IS WHAT THE SMALL CODE SAYS; THE LIBRARY's FUNCTIONS MEET THEIR CONTRACTS. -/
namespace Go.Abs
open Go.Proofs Go.RowKit
set_option maxRecDepth 100000

/-- what holds of the tables and variables that the library reads -/
structure GG (S : Nat → Prop) (w : World) : Prop where
  pow : Lib.TabIs Tryz.prog w "internal/strconv.uint64pow10" .u64 Lib.pow10Tab
  utf : Lib.Utf8Tabs 2 3 w
  synt : ∃ ev, w.cell? ⟨4, 0, none⟩ = some ev ∧ (ev = .nilIface ∨ ∃ te pe, ev = .iface te pe)
  rang : ∃ ev, w.cell? ⟨5, 0, none⟩ = some ev ∧ (ev = .nilIface ∨ ∃ te pe, ev = .iface te pe)
  low : ∀ b, b < 8 → S b

theorem gg_stable : Stable GG := by
  intro S S' w w' h hS hw
  have hb : ∀ b, b < 8 → w'.heap[b]? = w.heap[b]? := fun b hb => hw b (h.low b hb)
  have hc : ∀ b o, b < 8 → w'.cell? ⟨b, o, none⟩ = w.cell? ⟨b, o, none⟩ := fun b o h => cell_congr (hb b h) o none
  refine ⟨?_, ⟨fun c hc' => ?_, fun i hi => ?_⟩, ?_, ?_, fun b hb' => hS b (h.low b hb')⟩
  · have h1 := h.pow
    unfold Lib.TabIs World.var? at h1 ⊢
    have hg : Tryz.prog.globalNamed "internal/strconv.uint64pow10" = some 1 := by kernel_rfl
    rw [hg] at h1 ⊢
    simp only [Option.bind_some] at h1 ⊢
    rw [hb 1 (by omega)]
    exact h1
  · rw [hc 2 _ (by omega)]; exact h.utf.1 c hc'
  · rw [hc 3 _ (by omega), hc 3 _ (by omega)]; exact h.utf.2 i hi
  · obtain ⟨ev, h1, h2⟩ := h.synt
    exact ⟨ev, by rw [hc 4 _ (by omega)]; exact h1, h2⟩
  · obtain ⟨ev, h1, h2⟩ := h.rang
    exact ⟨ev, by rw [hc 5 _ (by omega)]; exact h1, h2⟩

section
variable {ι : Emb} {S T : Nat → Prop} {w w' : World} {r : AVal} {v : Value} {next : Free}
/-- an answer that owns nothing, behind which the old memory is as it was -/
theorem back_of (hi : Inv ι S T [] w (Free.above 0)) (hb : Below w.heap.size w w') (hr : ∀ ι' S' T' w'', Rep ι' S' T' w'' r v) : Back ι S T [] w r [] v w' := by
  refine ⟨ι, S, Free.above 0, hr _ _ _ _, ⟨by simp, by simp, by simp, hi.fresh, fun b hb' => Nat.lt_of_lt_of_le (hi.s_lt b hb') hb.size, fun b hb' => Nat.lt_of_lt_of_le (hi.t_lt b hb') hb.size⟩, ?_⟩
  exact ⟨fun _ _ h => h, fun _ h => h, fun b hb' _ => hb.block b hb', hb.size, fun b ⟨e, he, _⟩ => (by cases he), fun b h => .inl h, hb.os, hb.tape, hb.output⟩

theorem call_enter {g : Nat} {vals : Array Value} {R : Value → World → Prop} {fn : Func} (hf : Tryz.prog.funcs[g]? = some fn) (hb : fn.body.isSome = true) (hn : (fn.name == "runtime.NumGoroutine") = false)
    (h : Go.Calls Tryz.prog g vals w fun | .returned v, w'' => R v w'' | _, _ => False) : CallOK Tryz.prog g vals w R := by
  obtain ⟨c, hc⟩ := Option.isSome_iff_exists.1 hb
  have hrun : (callFunc g vals).run Tryz.prog w = .ok (.enter g vals) w := by
    have hn : ¬ fn.name = "runtime.NumGoroutine" := by simpa using hn
    simp [callFunc, hf, hn, hc]
  unfold CallOK
  rw [hrun]
  exact h

theorem grow_below (k : Nat) (os : Array Obj) : Below w.heap.size w (Sort.grow (w.drewN k) os) := by
  refine ⟨rfl, rfl, rfl, ?_, fun j hj => ?_⟩
  · show w.heap.size ≤ (w.heap ++ os).size
    simp
  · show (w.heap ++ os)[j]? = _
    rw [Array.getElem?_append_left hj]

theorem itoa_ok {n : Int} (hg : GG S w) (hi : Inv ι S T [] w (Free.above 0)) (h0 : -9223372036854775808 ≤ n) (h1 : n ≤ 9223372036854775807) : CallOK Tryz.prog 98 #[.int .i64 n] w (Back ι S T [] w (.str (Lib.itoa n)) []) := by
  refine call_enter Tryz.func98 (by kernel_rfl) (by kernel_rfl) ?_
  refine (Any.internal_strconv_Itoa Tryz.laysItoa n h0 h1 w hg.pow).mono ?_
  rintro e w' ⟨rfl, k, os, rfl⟩
  exact back_of hi (grow_below k os) fun _ _ _ _ => .str _
theorem valid_ok {s : List UInt8} (hg : GG S w) (hi : Inv ι S T [] w (Free.above 0)) (h0 : s.length ≤ 9223372036854775807) : CallOK Tryz.prog 191 #[.string ⟨s.toArray⟩] w (Back ι S T [] w (.bool (Lib.validD s)) []) := by
  refine call_enter Tryz.func191 (by kernel_rfl) (by kernel_rfl) ?_
  refine (Any.utf8_ValidString Tryz.laysValid ⟨s.toArray⟩ w (by simpa [ByteArray.size] using h0) hg.utf).mono ?_
  rintro e w' ⟨rfl, hb⟩
  exact back_of hi hb fun _ _ _ _ => .bool _
theorem atoi_ok {s : List UInt8} (hg : GG S w) (hi : Inv ι S T [] w (Free.above 0)) (h0 : s.length ≤ 281474976710656) :
    CallOK Tryz.prog 118 #[.string ⟨s.toArray⟩] w (Back ι S T [] w (.tuple [.int .i64 (atoiV s), if atoiOk s = true then .lit .nilIface else numErr]) []) := by
  refine call_enter Tryz.func118 (by kernel_rfl) (by kernel_rfl) ?_
  have hsz : (ByteArray.mk s.toArray).size = s.length := by simp [ByteArray.size]
  have htl : (ByteArray.mk s.toArray).data.toList = s := by simp
  have rep : ∀ (n : Int) (a : AVal) (v : Value) (ι' : Emb) (S' T' : Nat → Prop) (w'' : World), Rep ι' S' T' w'' a v → Rep ι' S' T' w'' (.tuple [.int .i64 n, a]) (.tuple #[.int .i64 n, v]) := by
    intro n a v ι' S' T' w'' h
    refine .tuple _ _ rfl fun i c u hc hu => ?_
    match i with
    | 0 => simp at hc hu; subst hc; subst hu; exact .int _ _
    | 1 => simp at hc hu; subst hc; subst hu; exact h
    | i + 2 => simp at hc
  cases ha : Lib.atoiAll s
  case ok v =>
    have e1 : atoiV s = v := by simp [atoiV, ha]
    have e2 : atoiOk s = true := by simp [atoiOk, ha]
    rw [e1, if_pos e2]
    refine (Any.strconv_Atoi_ok Tryz.laysAtoi ⟨s.toArray⟩ (by omega) v (by rw [htl]; exact ha) w).mono ?_
    rintro e w' ⟨rfl, hw⟩
    refine back_of hi ?_ fun _ _ _ _ => rep _ _ _ _ _ _ _ (.lit _)
    rcases hw with rfl | ⟨t, rfl⟩
    · exact Below.refl _ _
    · exact Lib.bytesWorld_below _ _ _
  case range =>
    have e1 : atoiV s = Lib.atoiSat s := by simp [atoiV, ha]
    have e2 : ¬ atoiOk s = true := by simp [atoiOk, ha]
    rw [e1, if_neg e2]
    obtain ⟨ev, g1, g2⟩ := hg.rang
    refine (Any.strconv_Atoi_range Tryz.laysAtoi ⟨s.toArray⟩ (by omega) (by rw [htl]; exact ha) ev w g1 g2).mono ?_
    rintro e w' ⟨N, rfl, _, _, hb⟩
    exact back_of hi hb fun _ _ _ _ => rep _ _ _ _ _ _ _ (.iface _ _ _ (.junk _))
  have e1 : atoiV s = 0 := by simp [atoiV, ha]
  have e2 : ¬ atoiOk s = true := by simp [atoiOk, ha]
  rw [e1, if_neg e2]
  obtain ⟨ev, g1, g2⟩ := hg.synt
  refine (Any.strconv_Atoi_syntax Tryz.laysAtoi ⟨s.toArray⟩ (by omega) (by rw [htl]; exact ha) ev w g1 g2).mono ?_
  rintro e w' ⟨N, rfl, _, _, hb⟩
  exact back_of hi hb fun _ _ _ _ => rep _ _ _ _ _ _ _ (.iface _ _ _ (.junk _))
theorem extern_ok {g : Nat} {vals : Array Value} {fn : Func} {x : Array Value → Sem Value} (hi : Inv ι S T [] w (Free.above 0)) (hf : Tryz.prog.funcs[g]? = some fn) (hname : (fn.name == "runtime.NumGoroutine") = false)
    (hb : fn.body.isNone = true) (hn : Extern.findNext fn = none) (he : Extern.find fn = some x) (hx : (x vals).run Tryz.prog w = .ok v w) (hr : ∀ ι' S' T' w'', Rep ι' S' T' w'' r v) : CallOK Tryz.prog g vals w (Back ι S T [] w r []) := by
  unfold CallOK
  rw [run_callFunc_extern hf hname hb hn he, hx]
  exact back_of hi (Below.refl _ _) hr
theorem count_ok {s : List UInt8} {c : Int} (hi : Inv ι S T [] w (Free.above 0)) : CallOK Tryz.prog 255 #[.string ⟨s.toArray⟩, .int .u8 c] w (Back ι S T [] w (.int .i64 (Lib.countByte s c.toNat.toUInt8)) []) := by
  refine extern_ok hi Tryz.func255 (by kernel_rfl) (by kernel_rfl) (by kernel_rfl) (x := Extern.BytealgCount.count) (by kernel_rfl) (Lib.run_countString _ _ _) fun _ _ _ _ => ?_
  have htl : (ByteArray.mk s.toArray).data.toList = s := by simp
  rw [htl]
  exact .int _ _
theorem index_ok {s : List UInt8} {c : Int} (hi : Inv ι S T [] w (Free.above 0)) : CallOK Tryz.prog 247 #[.string ⟨s.toArray⟩, .int .u8 c] w (Back ι S T [] w (.int .i64 (Lib.indexByte s c.toNat.toUInt8)) []) := by
  refine extern_ok hi Tryz.func247 (by kernel_rfl) (by kernel_rfl) (by kernel_rfl) (x := Extern.BytealgIndexByte.indexByte) (by kernel_rfl) (Lib.run_indexByteString _ _ _) fun _ _ _ _ => ?_
  have htl : (ByteArray.mk s.toArray).data.toList = s := by simp
  rw [htl]
  exact .int _ _
theorem cmp_ok {s t : List UInt8} (hi : Inv ι S T [] w (Free.above 0)) : CallOK Tryz.prog 211 #[.string ⟨s.toArray⟩, .string ⟨t.toArray⟩] w (Back ι S T [] w (.int .i64 (Lib.compareBytes s t)) []) := by
  refine extern_ok hi Tryz.func211 (by kernel_rfl) (by kernel_rfl) (by kernel_rfl) (x := Extern.BytealgCompare.compare) (by kernel_rfl) (Lib.run_compareString _ _ _) fun _ _ _ _ => ?_
  have h1 : (ByteArray.mk s.toArray).data.toList = s := by simp
  have h2 : (ByteArray.mk t.toArray).data.toList = t := by simp
  rw [h1, h2]
  exact .int _ _
theorem bytesOf_some : ∀ {es : List AVal} {l : List UInt8}, bytesOf es = some l → ∃ xs : List Int, es = xs.map (.int .u8 ·) ∧ l = xs.map fun n => UInt8.ofNat n.toNat
  | [], l, h => by
    simp [bytesOf] at h
    exact ⟨[], rfl, h⟩
  | e :: r, l, h => by
    unfold bytesOf at h
    split at h <;> try (simp at h; done)
    · rename_i heq
      cases heq
    · rename_i n r' heq
      cases heq
      obtain ⟨l', h1, rfl⟩ := map_some h
      obtain ⟨xs, h2, h3⟩ := bytesOf_some h1
      exact ⟨n :: xs, by simp [h2], by simp [h3]⟩
theorem indexB_ok {es : List AVal} {l : List UInt8} {c : Int} {cl tm : Bool} {v : Value} (hi : Inv ι S T [] w (Free.above 0)) (hb : bytesOf es = some l) (hv : Rep ι S T w (.view 1 es cl tm) v) : CallOK Tryz.prog 228 #[v, .int .u8 c] w (Back ι S T [] w (.int .i64 (Lib.indexByte l c.toNat.toUInt8)) []) := by
  obtain ⟨xs, rfl, rfl⟩ := bytesOf_some hb
  obtain ⟨b, o, q, sp, vs, rfl, hsp, h1, h2, h3, h4, h5, h6, h7⟩ := hv.view_inv
  have hrun : (Extern.BytealgIndexByte.indexByte #[.slice (some ⟨b, o, sp⟩) (xs.map (AVal.int .u8 ·)).length q, .int .u8 c]).run Tryz.prog w = .ok (.int .i64 (Lib.indexByte (Lib.bytesOf xs) c.toNat.toUInt8)) w := by
    rcases hsp with rfl | rfl
    · exact Lib.run_indexByteSlice (P := Tryz.prog) (w := w) b o (xs.map (AVal.int .u8 ·)).length q xs (by simp) (fun i hil => by
        have hl : i < xs.length := by simpa using hil
        have e1 : (xs.map (AVal.int .u8 ·))[i]? = some (.int .u8 xs[i]) := by simp [hl]
        have e2 := h6 i _ 0 (.int .u8 xs[i]) e1 rfl
        have e3 := h7 i _ 0 (.int .u8 xs[i]) e1 rfl
        have e4 : xs.getD i 0 = xs[i] := by simp [List.getD, hl]
        rw [e4, ← e3.int_inv]
        simpa using e2) c
    · obtain rfl : xs = [] := List.eq_nil_of_length_eq_zero (by simpa using h1)
      exact Lib.run_indexByteString (P := Tryz.prog) .empty c w
  refine extern_ok hi Tryz.func228 (by kernel_rfl) (by kernel_rfl) (by kernel_rfl) (x := Extern.BytealgIndexByte.indexByte) (by kernel_rfl) hrun fun _ _ _ _ => ?_
  have : Lib.bytesOf xs = xs.map fun n => UInt8.ofNat n.toNat := rfl
  rw [this]
  exact .int _ _
theorem indexN_ok {c : Int} (hi : Inv ι S T [] w (Free.above 0)) : CallOK Tryz.prog 228 #[.slice none 0 0, .int .u8 c] w (Back ι S T [] w (.int .i64 (-1)) []) :=
  extern_ok hi Tryz.func228 (by kernel_rfl) (by kernel_rfl) (by kernel_rfl) (x := Extern.BytealgIndexByte.indexByte) (by kernel_rfl) (Lib.run_indexByteNil _ 0 0 c) fun _ _ _ _ => .int _ _

theorem one_arg {args : List AVal} {vals : Array Value} {a : AVal} (ha : args = [a]) (hl : args.length = vals.size) (hr : ∀ (i : Nat) (c : AVal) (v : Value), args[i]? = some c → vals[i]? = some v → Rep ι S T w c v) : ∃ v, vals = #[v] ∧ Rep ι S T w a v := by
  subst ha
  obtain ⟨l⟩ := vals
  match l, hl with
  | [v], _ => exact ⟨v, rfl, hr 0 a v rfl rfl⟩
theorem two_args {args : List AVal} {vals : Array Value} {a b : AVal} (ha : args = [a, b]) (hl : args.length = vals.size) (hr : ∀ (i : Nat) (c : AVal) (v : Value), args[i]? = some c → vals[i]? = some v → Rep ι S T w c v) : ∃ v u, vals = #[v, u] ∧ Rep ι S T w a v ∧ Rep ι S T w b u := by
  subst ha
  obtain ⟨l⟩ := vals
  match l, hl with
  | [v, u], _ => exact ⟨v, u, rfl, hr 0 a v rfl rfl, hr 1 b u rfl rfl⟩
theorem prim_ok {g : Nat} {p : List AVal → Option AVal} (hp : prims g = some p) {args : List AVal} (hr : p args = some r) (hg : GG S w) (hi : Inv ι S T [] w (Free.above 0)) {vals : Array Value} (hl : args.length = vals.size)
    (hv : ∀ (i : Nat) (c : AVal) (v : Value), args[i]? = some c → vals[i]? = some v → Rep ι S T w c v) : CallOK Tryz.prog g vals w (Back ι S T [] w r []) := by
  unfold prims at hp
  split at hp <;> simp only [Option.some.injEq, reduceCtorEq] at hp <;> subst hp
  · unfold itoaP at hr
    split at hr <;> try (simp at hr; done)
    split at hr <;> simp only [Option.some.injEq, reduceCtorEq] at hr
    subst hr
    rename_i n hn
    obtain ⟨v, rfl, h1⟩ := one_arg rfl hl hv
    rw [h1.int_inv]
    exact itoa_ok hg hi hn.1 hn.2
  · unfold atoiP at hr
    split at hr <;> try (simp at hr; done)
    split at hr <;> simp only [Option.some.injEq, reduceCtorEq] at hr
    subst hr
    rename_i s hn
    obtain ⟨v, rfl, h1⟩ := one_arg rfl hl hv
    rw [h1.str_inv]
    exact atoi_ok hg hi hn
  · unfold validP at hr
    split at hr <;> try (simp at hr; done)
    split at hr <;> simp only [Option.some.injEq, reduceCtorEq] at hr
    subst hr
    rename_i s hn
    obtain ⟨v, rfl, h1⟩ := one_arg rfl hl hv
    rw [h1.str_inv]
    exact valid_ok hg hi hn
  · unfold countP at hr
    split at hr <;> simp only [Option.some.injEq, reduceCtorEq] at hr
    subst hr
    obtain ⟨v, u, rfl, h1, h2⟩ := two_args rfl hl hv
    rw [h1.str_inv, h2.int_inv]
    exact count_ok hi
  · unfold indexP at hr
    split at hr <;> simp only [Option.some.injEq, reduceCtorEq] at hr
    subst hr
    obtain ⟨v, u, rfl, h1, h2⟩ := two_args rfl hl hv
    rw [h1.str_inv, h2.int_inv]
    exact index_ok hi
  · unfold indexBP at hr
    split at hr
    · obtain ⟨l, hb, rfl⟩ := map_some hr
      obtain ⟨v, u, rfl, h1, h2⟩ := two_args rfl hl hv
      rw [h2.int_inv]
      exact indexB_ok hi hb h1
    · simp only [Option.some.injEq] at hr
      subst hr
      obtain ⟨v, u, rfl, h1, h2⟩ := two_args rfl hl hv
      rw [h2.int_inv, h1.lit_inv]
      exact indexN_ok hi
    · simp at hr
  · unfold cmpP at hr
    split at hr <;> simp only [Option.some.injEq, reduceCtorEq] at hr
    subst hr
    obtain ⟨v, u, rfl, h1, h2⟩ := two_args rfl hl hv
    rw [h1.str_inv, h2.str_inv]
    exact cmp_ok hi
end
theorem names_ok : (Tryz.prog.funcs.all fun f => !(f.name == "runtime.NumGoroutine")) = true := by kernel_rfl
theorem aa_of : AA.Of gl0 Tryz.prog [58] GG := {
  mix := by kernel_rfl
  stable := gg_stable
  glob := fun S w _ g v h => by cases h
  fn := fun g afn h => by
    obtain ⟨fn, h1, h2⟩ := Option.bind_eq_some_iff.1 (show (Tryz.prog.funcs[g]?).bind (trFn gl0 Tryz.prog [58]) = some afn from h)
    refine ⟨fn, h1, ?_, h2⟩
    have hm := (Array.all_eq_true_iff_forall_mem.1 names_ok) fn (Array.mem_of_getElem? h1)
    simpa using hm
  prim := fun g p hp args r hr ι S T w vals hg hi hl hv => prim_ok hp hr hg hi hl hv }
end Go.Abs
/- FROM THE SMALL CODE's ANSWER TO THE CALL. -/
namespace Go.Abs
open Go.Proofs Go.RowKit
set_option maxRecDepth 100000
theorem law_calls {g : Nat} {fn : Func} (hf : Tryz.prog.funcs[g]? = some fn) (hb : fn.body.isSome = true) (hn : (fn.name == "runtime.NumGoroutine") = false) {args : List AVal} (hs : callT AA g args [] = some (.bool true, [])) {w : World} {vals : Array Value}
    (hG : GG (fun b => b < w.heap.size) w) (hl : args.length = vals.size) (hr : ∀ (i : Nat) (c : AVal) (v : Value), args[i]? = some c → vals[i]? = some v → Rep (fun _ => none) (fun b => b < w.heap.size) (fun _ => False) w c v) :
    Go.Calls Tryz.prog g vals w fun e w' => e = .returned (.bool true) ∧ Below w.heap.size w w' := by
  have hi : Inv (fun _ => none) (fun b => b < w.heap.size) (fun _ => False) [] w (Free.above 0) := ⟨by simp, by simp, by simp, fun _ _ => rfl, fun _ h => h, fun _ h => h.elim⟩
  have h := callT_sound aa_of g args [] (.bool true) [] hs _ _ _ w vals hG hi hl hr
  obtain ⟨c, hc⟩ := Option.isSome_iff_exists.1 hb
  have hrun : (callFunc g vals).run Tryz.prog w = .ok (.enter g vals) w := by
    have hn : ¬ fn.name = "runtime.NumGoroutine" := by simpa using hn
    simp [callFunc, hf, hn, hc]
  unfold CallOK at h
  rw [hrun] at h
  refine Go.Calls.mono h fun e w' he => ?_
  cases e with
  | returned v =>
    obtain ⟨ι', S', n', h1, h2, h3⟩ := he
    rw [h1.bool_inv]
    exact ⟨rfl, h3.os, h3.tape, h3.output, h3.size, fun k hk => h3.frame k hk fun ⟨e, he, _⟩ => by cases he⟩
  | panicked c => exact he.elim
  | outgrown => exact he.elim
end Go.Abs
/- WHAT THE ARGUMENTS STAND FOR: bytes, entries, lists of entries. -/
namespace Go.Abs
open Go.Proofs Go.RowKit Go.ChangeShapes Go.WideShapes Go.Deep
set_option maxRecDepth 100000
set_option linter.unusedSimpArgs false
/-- a value that is all old memory's -/
abbrev RepW (w : World) : AVal → Value → Prop := Rep (fun _ => none) (fun b => b < w.heap.size) (fun _ => False) w
section
variable {H : Type} {enc : TypeId × Value → H} {w : World} {n : Nat} {cs : List Value} {x : DataW H × List MemPlace}
theorem lt_of_cell {a : Addr} {v : Value} (h : w.cell? a = some v) : a.block < w.heap.size ∧ a.spot = none := by
  unfold World.cell? at h
  split at h
  · rename_i c e f hb
    refine ⟨(Array.getElem?_eq_some_iff.1 hb).1, ?_⟩
    cases hs : a.spot with
    | none => rfl
    | some k => rw [hs] at h; simp at h
  · cases h
theorem cell_add {b o i : Nat} {sp : Option Nat} {v : Value} (h : w.cell? ((⟨b, o, sp⟩ : Addr).add i) = some v) (hs : sp = none) : w.cell? ⟨b, o + i, none⟩ = some v := by
  subst hs
  rw [← h, Addr.add_none]
/-- no string, slice or map of it is larger than the reach -/
def Light (d : DataW H) (t : TypeId) : Prop := ∀ k ∈ d.weights Tryz.prog t, k ≤ reachBytes
theorem reach_eq : reachBytes = 140737488351232 := by decide
theorem str_of (hw : Light x.1 9) (h : DataW.trod enc Tryz.prog w 0 (fun _ => true) true n 9 cs = some x) : ∃ (l : List UInt8) (v : Value), cs = [v] ∧ RepW w (.str l) v ∧ l.length ≤ 140737488351232 := by
  obtain ⟨s, h1, hx, h2⟩ := DataW.trod_string Tryz.underlying9 h
  have hwl : s.data.toList.length ≤ 140737488351232 := by
    rw [← reach_eq]
    refine hw _ ?_
    rw [hx]
    simp [DataW.weights]
  refine ⟨s.data.toList, .string s, h1, ?_, hwl⟩
  · have := Rep.str (ι := fun _ => none) (S := fun b => b < w.heap.size) (T := fun _ => False) (w := w) s.data.toList
    simpa using this
theorem int_of (h : DataW.trod enc Tryz.prog w 0 (fun _ => true) true n 3 cs = some x) : ∃ (z : Int) (v : Value), cs = [v] ∧ RepW w (.int .i64 z) v ∧ -9223372036854775808 ≤ z ∧ z ≤ 9223372036854775807 := by
  obtain ⟨z, h1, _, h2⟩ := DataW.trod_int Tryz.underlying3 h
  simp only [Lit.wf, Bool.and_eq_true, decide_eq_true_eq] at h2
  exact ⟨z, _, h1, .int _ _, h2.1, h2.2⟩
theorem bytes_of (hw : Light x.1 26) (h : DataW.trod enc Tryz.prog w 0 (fun _ => true) true n 26 cs = some x) : ∃ (b : BS) (v : Value), cs = [v] ∧ RepW w b.av v ∧ b.isTmp = false ∧ b.l.length ≤ 140737488351232 := by
  rcases open_ints Tryz.underlying26 Tryz.underlying5 (by kernel_rfl) h with ⟨hcs, _⟩ | ⟨a, l, c, zs, hcs, _, hl, hm, hz, hx, hcell, hwz⟩
  · exact ⟨.nil, _, hcs, .lit _, rfl, by simp [BS.l]⟩
  · simp only [if_true] at hz
    have hwt : zs.length ≤ 140737488351232 := by
      have hb : Tryz.prog.bytesOf 5 = 1 := by kernel_rfl
      rw [← reach_eq]
      refine hw _ ?_
      rw [hx]
      simp only [DataW.weights, Tryz.underlying26, hb, lits, List.length_map, List.length_take, List.length_drop]
      refine List.mem_cons.2 (.inl ?_)
      omega
    have hw : ∀ i, i < zs.length → 0 ≤ zs.getD i 0 ∧ zs.getD i 0 ≤ 255 := by
      intro i hi
      have := hwz (zs.getD i 0) (by rw [List.getD, List.getElem?_eq_getElem hi]; exact List.getElem_mem hi)
      simpa [Lit.wf, IntKind.min, IntKind.max, IntKind.signed, IntKind.bits] using this
    obtain ⟨b, o, sp⟩ := a
    have hsp : sp = none ∨ c = 0 := by
      rcases Nat.eq_zero_or_pos c with h0 | h0
      · exact .inr h0
      · exact .inl (by simpa [Addr.add] using (lt_of_cell (hcell 0 (by omega))).2)
    let bs := (zs.take l).map fun z => UInt8.ofNat z.toNat
    have hlen : bs.length = l := by simp [bs]; omega
    have hget : ∀ (i : Nat) (e : AVal), (bs.map AVal.byte)[i]? = some e → i < l ∧ e = .int .u8 (zs.getD i 0) := by
      intro i e he
      have hi : i < l := by
        have := (List.getElem?_eq_some_iff.1 he).1
        simpa [hlen] using this
      refine ⟨hi, ?_⟩
      have hiz : i < zs.length := by omega
      have e1 : zs[i]? = some zs[i] := List.getElem?_eq_getElem hiz
      have e2 : zs.getD i 0 = zs[i] := by rw [List.getD, e1]; rfl
      have hb := hw i hiz
      rw [e2] at hb ⊢
      have e3 : (bs.map AVal.byte)[i]? = some (AVal.byte (UInt8.ofNat zs[i].toNat)) := by
        simp only [bs, List.getElem?_map, List.getElem?_take, hi, if_true, e1, Option.map_some]
      rw [e3] at he
      cases he
      unfold AVal.byte
      congr 1
      simp
      omega
    have hcl : ∀ i, i < zs.length → w.cell? ⟨b, o + i, none⟩ = some (.int .u8 (zs.getD i 0)) := by
      intro i hi
      refine cell_add (hcell i hi) ?_
      rcases hsp with h | h
      · exact h
      · omega
    have hcl1 : ∀ i, i < zs.length → w.cell? ⟨b, o + i * 1, none⟩ = some (.int .u8 (zs.getD i 0)) := by
      intro i hi
      rw [Nat.mul_one]
      exact hcl i hi
    have := Rep.view (ι := fun _ => none) (S := fun b => b < w.heap.size) (T := fun _ => False) (w := w) 1 (bs.map AVal.byte) false false b o c sp (fun i _ => .int .u8 (zs.getD i 0)) hsp (by simp [hlen]; omega) (by simp)
      (fun i e he => by
        obtain ⟨hi, rfl⟩ := hget i e he
        exact (lt_of_cell (hcl i (by omega))).1)
      (fun i e he => by
        obtain ⟨hi, rfl⟩ := hget i e he
        rfl)
      (fun i e he => by
        obtain ⟨hi, rfl⟩ := hget i e he
        rfl)
      (fun i e j y he hy => by
        obtain ⟨hi, rfl⟩ := hget i e he
        match j, hy with
        | 0, _ => exact hcl1 i (by omega)
        | j + 1, hy => simp [AVal.cells] at hy)
      (fun i e j y he hy => by
        obtain ⟨hi, rfl⟩ := hget i e he
        match j, hy with
        | 0, hy =>
          simp [AVal.cells] at hy
          subst hy
          exact .int _ _
        | j + 1, hy => simp [AVal.cells] at hy)
    refine ⟨.mk false false bs, _, hcs, ?_, rfl, ?_⟩
    · rw [List.length_map, hlen] at this
      exact this
    · simp only [BS.l, hlen]
      omega
structure EntW (e : Ent) : Prop where
  kind : -9223372036854775808 ≤ e.kind ∧ e.kind ≤ 9223372036854775807
  mode : -9223372036854775808 ≤ e.mode ∧ e.mode ≤ 9223372036854775807
  uid : -9223372036854775808 ≤ e.uid ∧ e.uid ≤ 9223372036854775807
  gid : -9223372036854775808 ≤ e.gid ∧ e.gid ≤ 9223372036854775807
  time : -9223372036854775808 ≤ e.time ∧ e.time ≤ 9223372036854775807
  path : e.path.length ≤ 140737488351232
  link : e.link.length ≤ 140737488351232
  data : e.data.l.length ≤ 140737488351232
  tmp : e.data.isTmp = false
theorem ent_of (hw : Light x.1 36) (h : DataW.trod enc Tryz.prog w 0 (fun _ => true) true n 36 cs = some x) : ∃ e : Ent, cs.length = 8 ∧ EntW e ∧ ∀ (j : Nat) (c : AVal) (v : Value), e.av.cells[j]? = some c → cs[j]? = some v → RepW w c v := by
  obtain ⟨xs, m, _, hx, hl, hxl, hf⟩ := DataW.trod_struct Tryz.underlying36 h
  have h8 : Tryz.prog.cellsOf 36 = 8 := by kernel_rfl
  have h9 : Tryz.prog.cellsOf 9 = 1 := by kernel_rfl
  have h3 : Tryz.prog.cellsOf 3 = 1 := by kernel_rfl
  have h26 : Tryz.prog.cellsOf 26 = 1 := by kernel_rfl
  rw [h8] at hl
  match cs, hl, xs, hxl with
  | [c0, c1, c2, c3, c4, c5, c6, c7], _, [y0, y1, y2, y3, y4, y5, y6, y7], _ =>
    have hws : (DataW.agg [y0.1, y1.1, y2.1, y3.1, y4.1, y5.1, y6.1, y7.1] : DataW H).weights Tryz.prog 36 = y0.1.weights Tryz.prog 9 ++ (y1.1.weights Tryz.prog 3 ++ (y2.1.weights Tryz.prog 3 ++ (y3.1.weights Tryz.prog 3 ++ (y4.1.weights Tryz.prog 3 ++ (y5.1.weights Tryz.prog 3 ++ (y6.1.weights Tryz.prog 9 ++ (y7.1.weights Tryz.prog 26 ++ []))))))) := by
      simp only [DataW.weights, Tryz.underlying36, List.map_cons, List.map_nil, DataW.weightsEach]
    have hw8 : ∀ k ∈ y0.1.weights Tryz.prog 9 ++ (y1.1.weights Tryz.prog 3 ++ (y2.1.weights Tryz.prog 3 ++ (y3.1.weights Tryz.prog 3 ++ (y4.1.weights Tryz.prog 3 ++ (y5.1.weights Tryz.prog 3 ++ (y6.1.weights Tryz.prog 9 ++ (y7.1.weights Tryz.prog 26 ++ []))))))), k ≤ reachBytes := by
      rw [← hws]
      intro k hk
      refine hw k ?_
      rw [hx]
      exact hk
    have w0 : Light y0.1 9 := fun k hk => hw8 k (by simp [hk])
    have w6 : Light y6.1 9 := fun k hk => hw8 k (by simp [hk])
    have w7 : Light y7.1 26 := fun k hk => hw8 k (by simp [hk])
    have g0 := hf 0 _ rfl
    have g1 := hf 1 _ rfl
    have g2 := hf 2 _ rfl
    have g3 := hf 3 _ rfl
    have g4 := hf 4 _ rfl
    have g5 := hf 5 _ rfl
    have g6 := hf 6 _ rfl
    have g7 := hf 7 _ rfl
    simp only [h9, h3, h26, List.drop_zero, List.drop_succ_cons, List.take_succ_cons, List.take_zero, List.getElem?_cons_zero, List.getElem?_cons_succ] at g0 g1 g2 g3 g4 g5 g6 g7
    obtain ⟨p, v0, e0, r0, b0⟩ := str_of w0 g0
    obtain ⟨k, v1, e1, r1, b1⟩ := int_of g1
    obtain ⟨md, v2, e2, r2, b2⟩ := int_of g2
    obtain ⟨u, v3, e3, r3, b3⟩ := int_of g3
    obtain ⟨gd, v4, e4, r4, b4⟩ := int_of g4
    obtain ⟨t, v5, e5, r5, b5⟩ := int_of g5
    obtain ⟨lk, v6, e6, r6, b6⟩ := str_of w6 g6
    obtain ⟨d, v7, e7, r7, b7, b8⟩ := bytes_of w7 g7
    cases e0; cases e1; cases e2; cases e3; cases e4; cases e5; cases e6; cases e7
    refine ⟨⟨p, k, md, u, gd, t, lk, d⟩, rfl, ⟨b1, b2, b3, b4, b5, b0, b6, b8, b7⟩, fun j c v hc hv => ?_⟩
    match j, hc, hv with
    | 0, hc, hv => cases hc; cases hv; exact r0
    | 1, hc, hv => cases hc; cases hv; exact r1
    | 2, hc, hv => cases hc; cases hv; exact r2
    | 3, hc, hv => cases hc; cases hv; exact r3
    | 4, hc, hv => cases hc; cases hv; exact r4
    | 5, hc, hv => cases hc; cases hv; exact r5
    | 6, hc, hv => cases hc; cases hv; exact r6
    | 7, hc, hv => cases hc; cases hv; exact r7
    | j + 8, hc, hv => cases hv
/-- an entry, by value -/
theorem entArg_of {v : Value} {d : DataW H} {p : List MemPlace} {r : Reach} {b0 : Nat} (hw : Light d 36) (hv : Value.okWide Tryz.prog w r b0 36 v) (h : DataW.Trod enc Tryz.prog w 0 (fun _ => true) true 36 v d p) : ∃ e : Ent, EntW e ∧ RepW w e.av v := by
  obtain ⟨cs, rfl, hsz⟩ := okWide_struct Tryz.underlying36 hv
  obtain ⟨m, hm⟩ := h
  obtain ⟨e, h1, h2, h3⟩ := ent_of hw hm
  refine ⟨e, h2, .agg _ _ ?_ fun i c v hc hv => h3 i c v hc (by simpa [Value.cells] using hv)⟩
  simp [Value.cells] at h1
  simp [h1]
instance : Inhabited Ent := ⟨⟨[], 0, 0, 0, 0, 0, [], .nil⟩⟩
/-- a list of entries: nil, or a row -/
def esAv : Option (List Ent) → AVal
  | none => .lit (.slice none 0 0)
  | some t => .view 8 (t.map Ent.av) false false
def esL : Option (List Ent) → List Ent
  | none => []
  | some t => t
theorem weightsAll_mem : ∀ (l : List (DataW H)) (t : TypeId) (d : DataW H), d ∈ l → ∀ k ∈ d.weights Tryz.prog t, k ∈ DataW.weightsAll Tryz.prog t l
  | [], _, d, hd => by cases hd
  | a :: r, t, d, hd => by
    intro k hk
    simp only [DataW.weightsAll, List.mem_append]
    rcases List.mem_cons.1 hd with rfl | hd
    · exact .inl hk
    · exact .inr (weightsAll_mem r t d hd k hk)
theorem ents_of (hw : Light x.1 22) (h : DataW.trod enc Tryz.prog w 0 (fun _ => true) true n 22 cs = some x) : ∃ (t : Option (List Ent)) (v : Value), cs = [v] ∧ RepW w (esAv t) v ∧ (∀ e ∈ esL t, EntW e) ∧ (esL t).length ≤ 140737488351232 := by
  rcases open_slice Tryz.underlying22 h with ⟨hcs, _⟩ | ⟨a, len, cap, m, n', D, Pl, hcs, _, hl, hm, hmm, hx, hi⟩
  · exact ⟨none, _, hcs, .lit _, by simp [esL], by simp [esL]⟩
  · have h8 : Tryz.prog.cellsOf 36 = 8 := by kernel_rfl
    simp only [if_true] at hmm
    subst hmm
    rw [h8] at hi
    have hb : Tryz.prog.bytesOf 36 = 96 := by kernel_rfl
    have hws : x.1.weights Tryz.prog 22 = (((List.range len).map D).length + ((List.range (m - len)).map fun j => D (len + j)).length) * 96 :: (DataW.weightsAll Tryz.prog 36 ((List.range len).map D) ++ DataW.weightsAll Tryz.prog 36 ((List.range (m - len)).map fun j => D (len + j))) := by
      rw [hx]
      simp only [DataW.weights, Tryz.underlying22, hb]
    have hm96 : m * 96 ≤ 140737488351232 := by
      rw [← reach_eq]
      refine hw _ ?_
      rw [hws]
      simp only [List.length_map, List.length_range]
      refine List.mem_cons.2 (.inl ?_)
      congr 1
      omega
    have hwD : ∀ i, i < m → Light (D i) 36 := by
      intro i him k hk
      refine hw k ?_
      rw [hws]
      refine List.mem_cons.2 (.inr (List.mem_append.2 ?_))
      by_cases hil : i < len
      · exact .inl (weightsAll_mem _ _ _ (List.mem_map.2 ⟨i, List.mem_range.2 hil, rfl⟩) k hk)
      · refine .inr (weightsAll_mem _ _ (D i) (List.mem_map.2 ⟨i - len, List.mem_range.2 (by omega), ?_⟩) k hk)
        show D (len + (i - len)) = D i
        congr 1
        omega
    obtain ⟨V, hV⟩ := choose_lt (α := Ent × List Value) (n := m) (p := fun i z => w.cells? 0 (a.add (i * 8)) 8 = some z.2 ∧ z.2.length = 8 ∧ EntW z.1 ∧ ∀ (j : Nat) (c : AVal) (v : Value), z.1.av.cells[j]? = some c → z.2[j]? = some v → RepW w c v) (fun i him => by
      obtain ⟨cs', h1, h2⟩ := hi i him
      obtain ⟨e, e1, e2, e3⟩ := ent_of (hwD i him) h2
      exact ⟨(e, cs'), h1, e1, e2, e3⟩)
    obtain ⟨b, o, sp⟩ := a
    have hsp : sp = none ∨ m = 0 := by
      rcases Nat.eq_zero_or_pos m with h0 | h0
      · exact .inr h0
      · obtain ⟨h1, h2, _⟩ := hV 0 h0
        obtain ⟨_, _, h3⟩ := World.cells?_some h1
        have h4 := h3 0 (by omega)
        rw [List.getElem?_eq_getElem (by omega)] at h4
        exact .inl (by simpa [Addr.add] using (lt_of_cell h4).2)
    let t := (List.range len).map fun i => (V i).1
    have hlen : t.length = len := by simp [t]
    have hget : ∀ (i : Nat) (e : AVal), (t.map Ent.av)[i]? = some e → i < len ∧ e = (V i).1.av := by
      intro i e he
      have hi : i < len := by
        have := (List.getElem?_eq_some_iff.1 he).1
        simpa [hlen] using this
      refine ⟨hi, ?_⟩
      simp [t, hi] at he
      exact he.symm
    have hcell : ∀ (i j : Nat), i < len → j < 8 → w.cell? ⟨b, o + i * 8 + j, none⟩ = some ((V i).2.getD j undef) := by
      intro i j hi hj
      obtain ⟨h1, h2, _⟩ := hV i (by omega)
      obtain ⟨_, _, h3⟩ := World.cells?_some h1
      have h4 := h3 j hj
      have hs : sp = none := by
        rcases hsp with h | h
        · exact h
        · omega
      subst hs
      rw [Addr.add_none, Addr.add_none] at h4
      rw [h4, List.getD, List.getElem?_eq_getElem (by omega)]
      rfl
    have hcn : ∀ e : Ent, e.av.cells.length = 8 := fun _ => rfl
    have := Rep.view (ι := fun _ => none) (S := fun b => b < w.heap.size) (T := fun _ => False) (w := w) 8 (t.map Ent.av) false false b o m sp (fun i j => (V i).2.getD j undef) hsp (by simp [hlen]; omega) (by simp)
      (fun i e he => by
        obtain ⟨hi, rfl⟩ := hget i e he
        exact (lt_of_cell (hcell i 0 hi (by omega))).1)
      (fun i e he => by
        obtain ⟨hi, rfl⟩ := hget i e he
        rfl)
      (fun i e he => by
        obtain ⟨hi, rfl⟩ := hget i e he
        have ht := (hV i (by omega)).2.2.1.tmp
        have hf : (V i).1.data.av.flat = true := by rw [flat_bs, ht]; rfl
        simp only [AVal.closed, cells_ent, List.all_cons, List.all_nil, flat_str, flat_int, hf, Bool.and_true])
      (fun i e j y he hy => by
        obtain ⟨hi, rfl⟩ := hget i e he
        have hj : j < 8 := by
          have := (List.getElem?_eq_some_iff.1 hy).1
          rwa [hcn] at this
        exact hcell i j hi hj)
      (fun i e j y he hy => by
        obtain ⟨hi, rfl⟩ := hget i e he
        have hj : j < 8 := by
          have := (List.getElem?_eq_some_iff.1 hy).1
          rwa [hcn] at this
        obtain ⟨_, h2, _, h4⟩ := hV i (by omega)
        refine h4 j y _ hy ?_
        rw [List.getD, List.getElem?_eq_getElem (by omega)]
        rfl)
    refine ⟨some t, _, hcs, ?_, ?_, ?_⟩
    · rw [List.length_map, hlen] at this
      exact this
    · intro e he
      simp only [esL, t, List.mem_map, List.mem_range] at he
      obtain ⟨i, hi, rfl⟩ := he
      exact (hV i (by omega)).2.2.1
    · simp only [esL, hlen]
      omega
end
end Go.Abs
/- TarForms. -/
namespace Go.Abs
open Am
set_option maxRecDepth 100000
set_option linter.unusedSimpArgs false
theorem entL_of {e : Ent} (h : EntW e) : EntL e := ⟨h.path, h.link, h.data⟩
theorem entOk_of {e : Ent} (h : EntW e) (h1 : e.data.l.length ≤ 65536 ∧ e.path.length ≤ 65536 ∧ e.link.length ≤ 65536) : EntOk e := ⟨by omega, by omega, by omega, h.tmp⟩
theorem fields_of {t : List Ent} (h : (checkT (t.map Ent.cp)).2 = 0) : ∀ e ∈ t, FieldsOk e ∧ e.path.length ≤ 400 := by
  intro e he
  rw [checkT_map Ent.cp same_cp] at h
  obtain ⟨_, h2⟩ := checkT_good h
  obtain ⟨g1, g2⟩ := h2 e he
  exact ⟨fields_ok g2, good_le g1⟩
set_option maxHeartbeats 4000000 in
theorem t7 (ct tt : Bool) (t : List Ent) (W : List UInt8) (q : Nat) (htl : t.length ≤ 128) (hf : ∀ e ∈ t, FieldsOk e ∧ e.path.length ≤ 400) (hW : W = writeL t) (hq : W.length = q) (hq1 : q ≤ 1000000000)
    (h15 : callT AA 15 [.view 8 (t.map Ent.av) ct tt] [] = some (.bool false, []))
    (h17 : callT AA 17 [.view 8 (t.map Ent.av) ct tt] [] = some (.tuple [.own 0 1 0 q false, .lit .nilIface], [(0, .row (W.map .byte) 1)])) :
    callT AA 7 [.view 8 (t.map Ent.av) ct tt] [] = some (.bool true, []) := by
  have hm := out_mod t 0
  have hlen : q = (outL 0 t).length + 1024 := by
    rw [← hq, hW]
    unfold writeL
    rw [List.length_append, zeros1024_length]
  obtain ⟨N, hN⟩ : ∃ N : Int, N = (q : Int) - 1024 := ⟨_, rfl⟩
  have hh := first7 ct tt t W q N hq hN htl hq1 hf hW
  dsimp only [EnvF] at hh
  have e1 : (0 : Int) < 1 → ((q : Int)).tmod 512 = 0 := fun _ => by
    rw [Int.tmod_eq_emod_of_nonneg (by omega)]
    omega
  have e2 : (0 : Int) < 1 → (q : Int) - 1024 = N := fun _ => hN.symm
  have e3 : N.toNat = q - 1024 := by omega
  have e4 : q - (q - 1024) = 1024 := by omega
  have e5 : (W.map AVal.byte).length = q := by rw [List.length_map, hq]
  have p1 : List.take 1024 (List.drop (q - 1024) (W.map AVal.byte)) = zeros1024.map .byte := by
    refine part_map ?_
    rw [hW]
    unfold writeL
    rw [List.drop_left' (by omega), List.take_of_length_le (by rw [zeros1024_length]; omega)]
  have c33 := fun c t => s33 (.mk c t zeros1024) (by rw [mk_l, zeros1024_length]; omega)
  have hz : zerosB zeros1024 = true := by simp [zerosB, zeros1024]
  simp only [mk_l, hz, mk_av] at c33
  have hs14 := s14
  clear hm hf hW
  refine enter fn7 np7 rfl ?_
  (simp (maxSteps := 2000000) (disch := omega) only [b7, hs14, h15, h17, c33, e1, e2, e3, e4, e5, p1, lp_head, go_sem]) <;> repeat' (first | ((first | refine gd_dec ?_ ?_ | refine gd_ndec ?_ ?_ | refine cd_dec ?_ ?_ | refine cd_ndec ?_ ?_ | refine gdd_dec ?_ ?_ | refine gdd_ndec ?_ ?_ | refine gd_of ?_ ?_ | refine cd_of ?_ ?_ | refine gdd_of ?_ ?_) <;> intro hg <;> first | (exfalso; omega) | (simp (maxSteps := 2000000) (disch := omega) only [hg, b7, hs14, h15, h17, c33, e1, e2, e3, e4, e5, p1, lp_head, go_sem])) | (refine And.intro ?_ ?_; focus omega) | omega)
set_option maxHeartbeats 4000000 in
theorem t7n : callT AA 7 [.lit (.slice none 0 0)] [] = some (.bool true, []) := by
  have hz := zeros1024_length
  have e1 : (0 : Int) < 1 → (1024 : Int).tmod 512 = 0 := fun _ => rfl
  have p1 : List.take 1024 (zeros1024.map AVal.byte) = zeros1024.map .byte := zeros1024_take
  have c33 := fun c t => s33 (.mk c t zeros1024) (by rw [mk_l, zeros1024_length]; omega)
  have hz : zerosB zeros1024 = true := by simp [zerosB, zeros1024]
  simp only [mk_l, hz, mk_av] at c33
  have hs14 := s14
  refine enter fn7 np7 rfl ?_
  (simp (maxSteps := 2000000) (disch := omega) only [b7, hs14, s15n, s17n, c33, e1, p1, hz, Int.reduceSub, lp_head, go_sem]) <;> repeat' (first | ((first | refine gd_dec ?_ ?_ | refine gd_ndec ?_ ?_ | refine cd_dec ?_ ?_ | refine cd_ndec ?_ ?_ | refine gdd_dec ?_ ?_ | refine gdd_ndec ?_ ?_ | refine gd_of ?_ ?_ | refine cd_of ?_ ?_ | refine gdd_of ?_ ?_) <;> intro hg <;> first | (exfalso; omega) | (simp (maxSteps := 2000000) (disch := omega) only [hg, b7, hs14, s15n, s17n, c33, e1, p1, hz, Int.reduceSub, lp_head, go_sem])) | (refine And.intro ?_ ?_; focus omega) | omega)
  all_goals refine hd_of (by unfold l7_0; rfl) ?_
  all_goals ((simp (maxSteps := 2000000) (disch := omega) only [r7_0, go_sem]) <;> repeat' (first | ((first | refine gd_dec ?_ ?_ | refine gd_ndec ?_ ?_ | refine cd_dec ?_ ?_ | refine cd_ndec ?_ ?_ | refine gdd_dec ?_ ?_ | refine gdd_ndec ?_ ?_ | refine gd_of ?_ ?_ | refine cd_of ?_ ?_ | refine gdd_of ?_ ?_) <;> intro hg <;> first | (exfalso; omega) | (simp (maxSteps := 2000000) (disch := omega) only [hg, r7_0, go_sem])) | (refine And.intro ?_ ?_; focus omega) | omega))
theorem s7 (t : Option (List Ent)) (ht : ∀ e ∈ esL t, EntW e) (hl : (esL t).length ≤ 140737488351232) : callT AA 7 [esAv t] [] = some (.bool true, []) := by
  cases t with
  | none => exact t7n
  | some t =>
    simp only [esL] at ht hl
    show callT AA 7 [.view 8 (t.map Ent.av) false false] [] = _
    have h15 := s15 false false t hl fun e he => entL_of (ht e he)
    have hs14 := s14
    cases hb : largeB 0 t with
    | true =>
      rw [hb] at h15
      refine enter fn7 np7 rfl ?_
      (simp (maxSteps := 2000000) (disch := omega) only [b7, hs14, h15, go_sem]) <;> repeat' (first | ((first | refine gd_dec ?_ ?_ | refine gd_ndec ?_ ?_ | refine cd_dec ?_ ?_ | refine cd_ndec ?_ ?_ | refine gdd_dec ?_ ?_ | refine gdd_ndec ?_ ?_ | refine gd_of ?_ ?_ | refine cd_of ?_ ?_ | refine gdd_of ?_ ?_) <;> intro hg <;> first | (exfalso; omega) | (simp (maxSteps := 2000000) (disch := omega) only [hg, b7, hs14, h15, go_sem])) | (refine And.intro ?_ ?_; focus omega) | omega)
    | false =>
      rw [hb] at h15
      have hlen := large_len hb
      have hsm := (large_small t 0 (by omega) hb).2
      cases t with
      | nil =>
        exact t7 false false [] zeros1024 1024 (by simp) (by simp) rfl zeros1024_length (by omega) h15 (s17v false false)
      | cons e r =>
        have hq : ∀ x ∈ e :: r, EntOk x := fun x hx => entOk_of (ht x hx) (hsm x hx)
        by_cases hc : (checkT ((e :: r).map Ent.cp)).2 = 0
        · have hwl := outL_le _ 0 (checkT_pieces hc)
          exact t7 false false (e :: r) (writeL (e :: r)) _ hlen (fields_of hc) rfl rfl (by
            unfold writeL
            rw [List.length_append, zeros1024_length]
            omega) h15 (s17 false false e r (by omega) hq hc (checkT_pieces hc))
        · have h17 := s17no false false e r (by omega) hq hc (fun x hx => by have := hsm x hx; omega)
          unfold errV at h17
          rw [if_neg hc] at h17
          generalize (checkT ((e :: r).map Ent.cp)).2 = E at *
          generalize e :: r = t at *
          refine enter fn7 np7 rfl ?_
          (simp (maxSteps := 2000000) (disch := omega) only [b7, hs14, h15, h17, go_sem]) <;> repeat' (first | ((first | refine gd_dec ?_ ?_ | refine gd_ndec ?_ ?_ | refine cd_dec ?_ ?_ | refine cd_ndec ?_ ?_ | refine gdd_dec ?_ ?_ | refine gdd_ndec ?_ ?_ | refine gd_of ?_ ?_ | refine cd_of ?_ ?_ | refine gdd_of ?_ ?_) <;> intro hg <;> first | (exfalso; omega) | (simp (maxSteps := 2000000) (disch := omega) only [hg, b7, hs14, h15, h17, go_sem])) | (refine And.intro ?_ ?_; focus omega) | omega)
end Go.Abs
/- FROM A ROW's PREMISES TO WHAT THE SMALL CODE ASKS: the tables and variables as they are laid; the ends of the rows. -/
namespace Go.Proofs.YtambgnjkakdoeaaGreatDoor
open Go.ChangeShapes Go.WideShapes Go.ChangeAt Go.RowKit Go.Abs
set_option maxRecDepth 100000
theorem ownNone : ownKnob Tryz.prog.godebug = none := by kernel_rfl
theorem laidOut : laidOutB Tryz.prog = true := by kernel_rfl
theorem iface_cells {H : Type} {enc : TypeId × Value → H} {P : Program} {w : World} {base : Nat} {sp : Nat → Bool} {held : Bool} {fuel : Nat} {t : TypeId} {ms : Array (String × TypeId)} {cs : List Value} {x : DataW H × List MemPlace}
    (ht : P.underlying t = some (.interface (ms))) (h : DataW.trod enc P w base sp held fuel t cs = some x) : ∃ v, cs = [v] ∧ (v = .nilIface ∨ ∃ u z, v = .iface u z) := by
  cases fuel with
  | zero => simp [DataW.trod] at h
  | succ fuel =>
    unfold DataW.trod at h
    rw [ht] at h
    split at h <;> first | (rename_i heq; cases heq; done) | skip
    · exact ⟨_, rfl, .inl rfl⟩
    · exact ⟨_, rfl, .inr ⟨_, _, rfl⟩⟩
    · cases h
theorem err_var {W : World} {nm : String} {d : DataW Unit} {k : Nat} (hk : Tryz.prog.globalNamed nm = some k) (ht : (Tryz.prog.globals[k]?).map (·.type) = some 28) (hr : Lib.VarReads Tryz.prog W nm d) :
    ∃ ev, W.cell? ⟨k, 0, none⟩ = some ev ∧ (ev = .nilIface ∨ ∃ te pe, ev = .iface te pe) := by
  obtain ⟨g, t, cs, fuel, p, hg, hty, hvar, hd⟩ := hr
  obtain rfl := Option.some.inj (hk.symm.trans hg)
  obtain rfl := Option.some.inj (ht.symm.trans hty)
  obtain ⟨v, hcs, hv⟩ := iface_cells Tryz.underlying28 hd
  refine ⟨v, ?_, hv⟩
  rw [World.var?_cell hg hvar 0, ← Array.getElem?_toList, hcs]
  rfl
theorem gg_of {W : World} (hL : laidMet Tryz.prog Rows.tarNoneRow.laid W) : GG (fun b => b < W.heap.size) W := by
  have r64 := Lib.laidMet.reads hL (.tail _ (.head _))
  have rpow := Lib.laidMet.reads hL (.tail _ (.tail _ (.head _)))
  have racc := Lib.laidMet.reads hL (.tail _ (.tail _ (.tail _ (.head _))))
  have rran := Lib.laidMet.reads hL (.tail _ (.tail _ (.tail _ (.tail _ (.head _)))))
  have rsyn := Lib.laidMet.reads hL (.tail _ (.tail _ (.tail _ (.tail _ (.tail _ (.head _))))))
  have rfst := Lib.laidMet.reads hL (.tail _ (.tail _ (.tail _ (.tail _ (.tail _ (.tail _ (.head _)))))))
  refine ⟨?_, ?_, err_var (by kernel_rfl) (by kernel_rfl) rsyn, err_var (by kernel_rfl) (by kernel_rfl) rran, fun b hb => ?_⟩
  · obtain ⟨g, t, cs, fuel, p, hg, hty, hvar, hd⟩ := rpow
    obtain rfl := Option.some.inj ((show Tryz.prog.globalNamed "internal/strconv.uint64pow10" = some 1 by kernel_rfl).symm.trans hg)
    obtain rfl := Option.some.inj ((show (Tryz.prog.globals[1]?).map (·.type) = some 247 by kernel_rfl).symm.trans hty)
    have hcs := Lib.cells_of_tab (zs := Lib.pow10Tab) (k := .u64) Tryz.underlying247 Tryz.underlying80 (by kernel_rfl) (by kernel_rfl) hd
    unfold Lib.TabIs
    rw [hvar, ← hcs]
  · exact utf8Tabs_of_readsT (U8Types.of196 Tryz.laysValid) ⟨by kernel_rfl, by kernel_rfl, by kernel_rfl, by kernel_rfl, by kernel_rfl, by kernel_rfl, by kernel_rfl⟩ rfst racc
  · obtain ⟨g, t, cs, fuel, p, hg, hty, hvar, hd⟩ := r64
    obtain rfl := Option.some.inj ((show Tryz.prog.globalNamed "math/bits.deBruijn64tab" = some 7 by kernel_rfl).symm.trans hg)
    have h7 : 7 < W.heap.size := by
      rcases Nat.lt_or_ge 7 W.heap.size with h | h
      · exact h
      · unfold World.var? at hvar
        rw [hg] at hvar
        simp [Array.getElem?_eq_none h] at hvar
    show b < W.heap.size
    omega
end Go.Proofs.YtambgnjkakdoeaaGreatDoor
/- WHAT ARGUMENTS STAND FOR: lists of entries, by value. -/
namespace Go.Abs
open Go.Proofs Go.RowKit Go.ChangeShapes Go.WideShapes Go.Deep
set_option maxRecDepth 100000
section
variable {H : Type} {enc : TypeId × Value → H} {w : World}
theorem entsArg_of {v : Value} {d : DataW H} {p : List MemPlace} {r : Reach} {b0 : Nat} (hw : Light d 22) (hv : Value.okWide Tryz.prog w r b0 22 v) (h : DataW.Trod enc Tryz.prog w 0 (fun _ => true) true 22 v d p) : ∃ t : Option (List Ent), RepW w (esAv t) v ∧ (∀ e ∈ esL t, EntW e) ∧ (esL t).length ≤ 140737488351232 := by
  obtain ⟨a, len, cap, rfl⟩ := okWide_slice Tryz.underlying22 hv
  obtain ⟨m, hm⟩ := h
  obtain ⟨t, v', h1, h2, h3, h4⟩ := ents_of hw hm
  have e : v' = .slice a len cap := by
    have : (Value.slice a len cap).cells.toList = [.slice a len cap] := rfl
    rw [this] at h1
    exact (List.cons.inj h1).1.symm
  subst e
  exact ⟨t, h2, h3, h4⟩
end
end Go.Abs
/- THE ROW OF A LAW OVER A LIST OF ENTRIES: TarForms. -/
namespace Go.Proofs.YtambgnjkakdoeaaGreatDoor
open Go.ChangeShapes Go.WideShapes Go.ChangeAt Go.RowKit Go.Abs
set_option maxRecDepth 100000
theorem lifted7 (sX : ∀ t : Option (List Ent), (∀ e ∈ esL t, EntW e) → (esL t).length ≤ 140737488351232 → callT AA 7 [esAv t] [] = some (.bool true, [])) (os : Os) (started : os.Started) (H : Type) (enc : TypeId × Value → H) :
    ReturnsInHanded {} Tryz.checked os 7 .any (fun w args => (Rows.tarFormsSpec.pre enc Tryz.prog Tryz.f7 Rows.tarFormsRow.domain false w args ∧ laidMetH Tryz.prog Rows.tarFormsRow.laid w) ∧ sizedMet enc Tryz.prog Tryz.f7 (OpenSpec.ofChange Rows.tarFormsSpec) false w args)
      (Rows.tarFormsSpec.post enc Tryz.prog Tryz.f7 false true false false) := by
  refine returnsInHanded_of_change_and (C := Tryz.checked) (X := fun w _ => laidMetH Tryz.prog Rows.tarFormsRow.laid w) (fun _ _ _ hh h => h.of_heap hh) ownNone started (by kernel_rfl) Tryz.func7
    (ChangeSpec.witness_shaped (enc := enc) (C := Tryz.checked) (os := os) (X := fun w _ => laidMetH Tryz.prog Rows.tarFormsRow.laid w) false (World.laidAll Tryz.prog os Rows.tarFormsRow.laid) #[.slice none 0 0] 8 (World.laidAll_os _ _ _)
      (World.shaped_of_ZipB (by kernel_rfl) (by kernel_rfl)) (by kernel_rfl) (by kernel_rfl) (by kernel_rfl)
      (by rw [MakeChecks.laidMetH_plain _ _ _ (by kernel_rfl)]; exact laidMet_laidAll _ (by kernel_rfl) (by kernel_rfl))) ?_
  intro W base args ds gs before hval0 hW hc hwt hL _
  have hval : ∀ (j : Nat) t v, Tryz.f7.params[j]? = some t → args[j]? = some v → Value.okWide Tryz.prog W .any base t v := hval0
  have hW' := hW
  obtain ⟨p, q, hA0, hV, rfl, _, _⟩ := hW
  have hA : DataW.TrodAll enc Tryz.prog W 0 (fun _ => true) true Tryz.f7.params.toList args.toList ds p := hA0
  rw [Tryz.params7] at hA hval
  obtain ⟨v0, d0, rfl, rfl, h0⟩ := trodAll_one hA
  obtain ⟨rfl, rfl⟩ := trodVars_none hV
  have k0 := h0
  have lt0 : ∀ x ∈ p, x.block < W.heap.size := by obtain ⟨m, hm⟩ := k0; exact DataW.trod_lt m _ _ _ hm
  have w0 : Light d0 22 := fun k hk => by
    rw [Tryz.params7] at hwt
    have := List.all_eq_true.1 hwt k (by
      show k ∈ DataW.weightsEach Tryz.prog (22 :: _) (d0 :: _)
      simp only [DataW.weightsEach, List.mem_append]
      exact .inl hk)
    simpa using this
  obtain ⟨t, hr, he, hl⟩ := entsArg_of w0 (hval 0 22 v0 rfl rfl) h0
  rw [MakeChecks.laidMetH_plain _ _ _ (by kernel_rfl)] at hL
  refine (law_calls (fn := Tryz.f7) Tryz.func7 (by kernel_rfl) (by kernel_rfl) (sX t he hl) (gg_of hL) rfl ?_).mono fun e' W' ⟨he', bel⟩ => ?_
  · intro i c v hc' hv
    match i, hc', hv with
    | 0, hc', hv =>
      cases hc'
      cases hv
      exact hr
    | i + 1, hc', hv => cases hc'
  subst he'
  exact ⟨_, rfl, _, _, _, [], _, [], hW', trodAll_mk1 (shut_bool Tryz.underlying4 _), trodAll_mk1 (Below.trod laidOut (by kernel_rfl) (of_decide_eq_true (by kernel_rfl)) k0 bel lt0), rfl, bel.frame _, fun h => by cases h⟩
theorem over7 (sX : ∀ t : Option (List Ent), (∀ e ∈ esL t, EntW e) → (esL t).length ≤ 140737488351232 → callT AA 7 [esAv t] [] = some (.bool true, [])) : Rows.TarFormsSaid :=
  OpenClaim.holds_of_wide 7 Tryz.f7 rfl rfl rfl rfl rfl rfl rfl ⟨rfl, rfl, rfl, rfl, rfl⟩ rfl rfl rfl rfl rfl (by kernel_rfl) Tryz.func7 (by kernel_rfl)
    (of_decide_eq_true (by kernel_rfl)) (by unfold Func.isWrapper; first | (rw [if_pos (by decide +kernel)]; kernel_rfl) | (rw [if_neg (by decide +kernel)]; exact ⟨rfl, rfl⟩))
    (fun os started H enc _ => lifted7 sX os started H enc)
theorem card7 (sX : ∀ t : Option (List Ent), (∀ e ∈ esL t, EntW e) → (esL t).length ≤ 140737488351232 → callT AA 7 [esAv t] [] = some (.bool true, [])) : Rows.TarFormsCardSaid :=
  Claim7.holds_tied_plain_at .later [] [.data, .data, .data, .data, .sentinel, .sentinel, .pinned] true (true, "9a27f009568e5a9d23452f5acf9f8ca070d2ce250d64b6051559486034a94d0c") true (over7 sX) (fun _ h => by cases h) (by kernel_rfl) (fun _ h => by cases h) tarForms_row_tie rfl ⟨rfl, rfl⟩ (by kernel_rfl) rfl
    (fun f fn hf hfn => by
      obtain rfl : f = 7 := Option.some.inj ((show Tryz.prog.funcNamed "amphora/amphoralaw12.TarForms" = some 7 by kernel_rfl).symm.trans hf) |>.symm
      obtain rfl : fn = Tryz.f7 := (Option.some.inj (Tryz.func7.symm.trans hfn)).symm
      exact ⟨by kernel_rfl, fun j t ht => by
        rw [Tryz.params7] at ht
        have hm : t ∈ [22] := by simpa using Array.mem_of_getElem? ht
        have hall : ([22].all fun u => !Tryz.prog.wantsStandIn u) = true := by kernel_rfl
        exact (show Tryz.prog.wantsStandIn t = false by simpa using List.all_eq_true.1 hall t hm)⟩)
    (by kernel_rfl)
end Go.Proofs.YtambgnjkakdoeaaGreatDoor
namespace Go.Proofs.YtambgnjkakdoeaaGreatDoor
open Go.Abs
theorem tarForms_holds : Rows.TarFormsCardSaid := card7 s7
end Go.Proofs.YtambgnjkakdoeaaGreatDoor
