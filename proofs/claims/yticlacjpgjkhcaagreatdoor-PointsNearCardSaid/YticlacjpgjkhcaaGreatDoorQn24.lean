/- Texts joined: Iter, G17, G20, G21, PC4 -/
import Derived.Shelf.SlIter.Nil
import Derived.Shelf.SortM.Plain
import Derived.Shelf.SortM.SortNone
import Derived.Test.YticlacjpgjkhcaaGreatDoorProg
import Derived.Test.YticlacjpgjkhcaaGreatDoorQn13
import Derived.Test.YticlacjpgjkhcaaGreatDoorQn7
import Derived.Deep.AppendLies
import Derived.Test.YticlacjpgjkhcaaGreatDoorQn19
import Derived.Test.YticlacjpgjkhcaaGreatDoorQn1
import Derived.Test.YticlacjpgjkhcaaGreatDoorQn22
import Derived.Test.YticlacjpgjkhcaaGreatDoorQn23
set_option linter.unusedVariables false
set_option linter.unusedSimpArgs false

/-
  DERIVED: THE SHELF's CONTRACTS AT THIS DUMP, IN PLAIN WORDS (tools/lay-plain.mjs out of 'TryzIter.lean', which tools/lay-shelf.mjs wrote): THE SAME DECLARATIONS UNDER THE SAME NAMES: 'import', 'namespace', 'open', 'def', 'theorem' AND NOTHING ELSE: no command of the shelf's: FOR A HAND-IN. Each laying: the table of numbers ('.._ren') and one theorem, a field a fact of the dump's own or the kernel's comparison; each contract: ONE APPLICATION.
-/
namespace Go.Proofs
open Go.Shelf
def Tryz.keys33_ren : Go.Shelf.Ren := ⟨fun | 7 => 33 | 10 => 92 | n => n, fun | 23 => 55 | 26 => 9 | 3 => 66 | 28 => 73 | 0 => 0 | 27 => 72 | 33 => 69 | 4 => 4 | n => n, fun | n => n⟩
theorem Tryz.keys33 : Go.Proofs.SlLaysZ.n7 Tryz.prog Tryz.keys33_ren := {
  mixed := by kernel_rfl
  f7 := ⟨Tryz.f33.name, by decide, Tryz.func33.trans (congrArg some (by kernel_rfl))⟩
  f10 := ⟨Tryz.f92.name, by decide, Tryz.func92.trans (congrArg some (by kernel_rfl))⟩
  t0 := Tryz.underlying0
  a0 := Tryz.isAgg0
  z0 := Tryz.sizeOf0
  v0 := Tryz.zeroValue0
  t4 := Tryz.underlying4
  a4 := Tryz.isAgg4
  z4 := Tryz.sizeOf4
  v4 := Tryz.zeroValue4
  t23 := Tryz.underlying55
  a23 := Tryz.isAgg55
  z23 := Tryz.sizeOf55
  v23 := Tryz.zeroValue55
  t26 := Tryz.underlying9
  a26 := Tryz.isAgg9
  z26 := Tryz.sizeOf9
  v26 := Tryz.zeroValue9
  t27 := Tryz.underlying72
  a27 := Tryz.isAgg72
  z27 := Tryz.sizeOf72
  v27 := Tryz.zeroValue72
  t28 := Tryz.underlying73
  a28 := Tryz.isAgg73
  z28 := Tryz.sizeOf73
  v28 := Tryz.zeroValue73
  t33 := Tryz.underlying69
  a33 := Tryz.isAgg69
  z33 := Tryz.sizeOf69
  v33 := Tryz.zeroValue69 }
def Tryz.sorted32_ren : Go.Shelf.Ren := ⟨fun | 6 => 32 | 8 => 90 | 9 => 91 | 11 => 142 | 13 => 144 | 12 => 143 | 23 => 201 | 24 => 202 | 14 => 192 | 15 => 193 | 16 => 194 | 17 => 195 | 18 => 196 | 19 => 197 | 20 => 198 | 21 => 199 | 22 => 200 | 25 => 218 | 26 => 219 | 27 => 220 | 28 => 221 | 29 => 222 | 30 => 223 | 31 => 243 | n => n, fun | 26 => 9 | 28 => 73 | 24 => 58 | 0 => 0 | 3 => 3 | 37 => 32 | 48 => 231 | 50 => 165 | 4 => 4 | 40 => 225 | 39 => 224 | 45 => 111 | 5 => 5 | 9 => 9 | 51 => 248 | 55 => 252 | 57 => 266 | 58 => 267 | 33 => 69 | n => n, fun | n => n⟩
theorem Tryz.sorted32 : Go.Proofs.SlLaysZ.n6 Tryz.prog Tryz.sorted32_ren := {
  mixed := by kernel_rfl
  f6 := ⟨Tryz.f32.name, by decide, Tryz.func32.trans (congrArg some (by kernel_rfl))⟩
  f8 := ⟨Tryz.f90.name, by decide, Tryz.func90.trans (congrArg some (by kernel_rfl))⟩
  f11 := ⟨Tryz.f142.name, by decide, Tryz.func142.trans (congrArg some (by kernel_rfl))⟩
  t0 := Tryz.underlying0
  a0 := Tryz.isAgg0
  z0 := Tryz.sizeOf0
  v0 := Tryz.zeroValue0
  t24 := Tryz.underlying58
  a24 := Tryz.isAgg58
  z24 := Tryz.sizeOf58
  v24 := Tryz.zeroValue58
  t26 := Tryz.underlying9
  a26 := Tryz.isAgg9
  z26 := Tryz.sizeOf9
  v26 := Tryz.zeroValue9
  t28 := Tryz.underlying73
  a28 := Tryz.isAgg73
  z28 := Tryz.sizeOf73
  v28 := Tryz.zeroValue73
  i26 := by kernel_rfl }
def Tryz.sort91_ren : Go.Shelf.Ren := ⟨fun | 6 => 91 | 8 => 144 | 9 => 143 | 19 => 201 | 20 => 202 | 21 => 192 | 22 => 193 | 23 => 194 | 24 => 195 | 25 => 196 | 26 => 197 | 27 => 198 | 28 => 199 | 29 => 200 | 36 => 218 | 31 => 219 | 32 => 220 | 37 => 221 | 38 => 222 | 39 => 223 | 41 => 243 | n => n, fun | 27 => 58 | 29 => 9 | 3 => 3 | 32 => 32 | 26 => 58 | 0 => 0 | 44 => 231 | 46 => 165 | 4 => 4 | 36 => 225 | 35 => 224 | 41 => 111 | 5 => 5 | 9 => 9 | 53 => 248 | 57 => 252 | 63 => 266 | 64 => 267 | n => n, fun | n => n⟩
theorem Tryz.sort91 : Go.Proofs.SlLaysM.n6 Tryz.prog Tryz.sort91_ren := {
  mixed := by kernel_rfl
  f6 := ⟨Tryz.f91.name, by decide, Tryz.func91.trans (congrArg some (by kernel_rfl))⟩
  f8 := Tryz.func144.trans (congrArg some (by kernel_rfl))
  f9 := ⟨Tryz.f143.name, by decide, Tryz.func143.trans (congrArg some (by kernel_rfl))⟩
  f19 := Tryz.func201.trans (congrArg some (by kernel_rfl))
  f20 := Tryz.func202.trans (congrArg some (by kernel_rfl))
  f21 := ⟨Tryz.f192.name, by decide, Tryz.func192.trans (congrArg some (by kernel_rfl))⟩
  f22 := ⟨Tryz.f193.name, by decide, Tryz.func193.trans (congrArg some (by kernel_rfl))⟩
  f23 := ⟨Tryz.f194.name, by decide, Tryz.func194.trans (congrArg some (by kernel_rfl))⟩
  f24 := ⟨Tryz.f195.name, by decide, Tryz.func195.trans (congrArg some (by kernel_rfl))⟩
  f25 := ⟨Tryz.f196.name, by decide, Tryz.func196.trans (congrArg some (by kernel_rfl))⟩
  f26 := ⟨Tryz.f197.name, by decide, Tryz.func197.trans (congrArg some (by kernel_rfl))⟩
  f27 := ⟨Tryz.f198.name, by decide, Tryz.func198.trans (congrArg some (by kernel_rfl))⟩
  f28 := ⟨Tryz.f199.name, by decide, Tryz.func199.trans (congrArg some (by kernel_rfl))⟩
  f29 := ⟨Tryz.f200.name, by decide, Tryz.func200.trans (congrArg some (by kernel_rfl))⟩
  f31 := Tryz.func219.trans (congrArg some (by kernel_rfl))
  f32 := Tryz.func220.trans (congrArg some (by kernel_rfl))
  f36 := ⟨Tryz.f218.name, by decide, Tryz.func218.trans (congrArg some (by kernel_rfl))⟩
  f37 := ⟨Tryz.f221.name, by decide, Tryz.func221.trans (congrArg some (by kernel_rfl))⟩
  f38 := ⟨Tryz.f222.name, by decide, Tryz.func222.trans (congrArg some (by kernel_rfl))⟩
  f39 := ⟨Tryz.f223.name, by decide, Tryz.func223.trans (congrArg some (by kernel_rfl))⟩
  f41 := ⟨Tryz.f243.name, by decide, Tryz.func243.trans (congrArg some (by kernel_rfl))⟩
  t0 := Tryz.underlying0
  a0 := Tryz.isAgg0
  z0 := Tryz.sizeOf0
  v0 := Tryz.zeroValue0
  t3 := Tryz.underlying3
  a3 := Tryz.isAgg3
  z3 := Tryz.sizeOf3
  v3 := Tryz.zeroValue3
  t4 := Tryz.underlying4
  a4 := Tryz.isAgg4
  z4 := Tryz.sizeOf4
  v4 := Tryz.zeroValue4
  t5 := Tryz.underlying5
  a5 := Tryz.isAgg5
  z5 := Tryz.sizeOf5
  v5 := Tryz.zeroValue5
  t9 := Tryz.underlying9
  a9 := Tryz.isAgg9
  z9 := Tryz.sizeOf9
  v9 := Tryz.zeroValue9
  t26 := Tryz.underlying58
  a26 := Tryz.isAgg58
  z26 := Tryz.sizeOf58
  v26 := Tryz.zeroValue58
  t27 := Tryz.underlying58
  a27 := Tryz.isAgg58
  z27 := Tryz.sizeOf58
  v27 := Tryz.zeroValue58
  t29 := Tryz.underlying9
  a29 := Tryz.isAgg9
  z29 := Tryz.sizeOf9
  v29 := Tryz.zeroValue9
  t32 := Tryz.underlying32
  a32 := Tryz.isAgg32
  z32 := Tryz.sizeOf32
  v32 := Tryz.zeroValue32
  t35 := Tryz.underlying224
  a35 := Tryz.isAgg224
  z35 := Tryz.sizeOf224
  v35 := Tryz.zeroValue224
  t36 := Tryz.underlying225
  a36 := Tryz.isAgg225
  z36 := Tryz.sizeOf225
  v36 := Tryz.zeroValue225
  t41 := Tryz.underlying111
  a41 := Tryz.isAgg111
  z41 := Tryz.sizeOf111
  v41 := Tryz.zeroValue111
  t44 := Tryz.underlying231
  a44 := Tryz.isAgg231
  z44 := Tryz.sizeOf231
  v44 := Tryz.zeroValue231
  t46 := Tryz.underlying165
  a46 := Tryz.isAgg165
  z46 := Tryz.sizeOf165
  v46 := Tryz.zeroValue165
  t53 := Tryz.underlying248
  a53 := Tryz.isAgg248
  z53 := Tryz.sizeOf248
  v53 := Tryz.zeroValue248
  t57 := Tryz.underlying252
  a57 := Tryz.isAgg252
  z57 := Tryz.sizeOf252
  v57 := Tryz.zeroValue252
  t63 := Tryz.underlying266
  a63 := Tryz.isAgg266
  z63 := Tryz.sizeOf266
  v63 := Tryz.zeroValue266
  t64 := Tryz.underlying267
  a64 := Tryz.isAgg267
  z64 := Tryz.sizeOf267
  v64 := Tryz.zeroValue267 }
end Go.Proofs
namespace Go.Proofs
open Go.RowKit Go.Maps Go.Sort Go.Shelf
/-- slices.Sort's two contracts at this dump, at the fence that asks nothing. -/
theorem Tryz.sorts32 (m : Nat) : AnyZ.SortsIn Tryz.prog Tryz.sorted32_ren Fence.wide m :=
  ⟨fun blk off cap ss W hH hblk hsz => callsIn_wide.2 (AnyM.slices_Sort_string Tryz.sort91 blk off cap ss W hH hblk hsz),
   fun p cap W => callsIn_wide.2 (AnyM.slices_Sort_string_none Tryz.sort91 p cap W)⟩

/-- **maps.Keys[map[string]scriptorium/api.Entry,string,scriptorium/api.Entry], at whatever map, the nil one too:** a function value over ONE NEW BLOCK, which holds the map. -/
theorem Tryz.maps_Keys_33 (mb : Option Nat) (W : World) : CallsIn Fence.wide 5 Tryz.prog 33 #[.map mb] W fun e w' => e = .returned (.func (.func 92) #[] #[.pointer (some ⟨W.heap.size, 0, none⟩)]) ∧ w' = W.alloc (.cells #[.map mb] 55) :=
  AnyZ.keys_in Tryz.keys33 Fence.wide 5 trivial rfl mb W

set_option maxHeartbeats 1000000 in
/-- **slices.Sorted[string] AT WHAT maps.Keys[map[string]scriptorium/api.Entry,string,scriptorium/api.Entry] HANDED BACK FOR A MAP THAT IS NOT nil** ('w': the world AHEAD of maps.Keys' call): A NEW SLICE THAT HOLDS THE MAP's KEYS, SORTED; nil just where it has none; nothing that lay before has turned. -/
theorem Tryz.slices_Sorted_keys_32_33 {H : Type} (b nn : Nat) (D0 : DataW H) (R : Value → Option (DataW H × List MemPlace)) (w : World) (hown : w.ownsMap Tryz.prog 9 R b nn D0) (hmax : Maps.size D0 ≤ maxLen) (hbytes : Maps.size D0 * 16 ≤ 140737488355328) :
    CallsIn Fence.wide 5 Tryz.prog 32 #[.func (.func 92) #[] #[.pointer (some ⟨w.heap.size, 0, none⟩)]] (w.alloc (.cells #[.map (some b)] 55)) fun e w' => ∃ (v : Value) (ss : List (List UInt8)), e = .returned v ∧ ss.Perm (strKeys D0) ∧
      w'.ownsRow (w.alloc (.cells #[.map (some b)] 55)).heap.size 9 1 v ss.length ((ss.mergeSort (fun x y => decide (x ≤ y))).map encStr) ∧ (v = .slice none 0 0 ↔ ss = []) ∧ Below (w.alloc (.cells #[.map (some b)] 55)).heap.size (w.alloc (.cells #[.map (some b)] 55)) w' := by
  have hbl := hown.lt
  have hseq : SeqGives Fence.wide 2 Tryz.prog 92 #[.pointer (some ⟨w.heap.size, 0, none⟩)] encStr (fun ss => ss.Perm (strKeys D0)) (Maps.size D0) (w.alloc (.cells #[.map (some b)] 55)) :=
    AnyZ.keys_gives (ρ := Tryz.keys33_ren) { Tryz.keys33 with } Fence.wide _ trivial rfl (by omega) w.heap.size b nn D0 _ (by simp) (by simp) (by
      obtain ⟨es, clock, hb, Ft, hs, hD⟩ := hown
      exact ⟨es, clock, (Below.heap_alloc _ _ b hbl).trans hb, Ft, hs, hD⟩)
  exact AnyZ.sorted_in Tryz.sorted32 Fence.wide 5 trivial trivial trivial trivial rfl (by omega) (Tryz.sorts32 _) (enters_of Tryz.func91 (by kernel_rfl) rfl) 92 #[.pointer (some ⟨w.heap.size, 0, none⟩)] trivial (enters_of Tryz.func92 (by kernel_rfl) rfl) _ _ hmax hbytes _ hseq

set_option maxHeartbeats 1000000 in
/-- **.. AND FOR THE nil MAP: nil.** -/
theorem Tryz.slices_Sorted_keys_nil_32_33 (w : World) :
    CallsIn Fence.wide 5 Tryz.prog 32 #[.func (.func 92) #[] #[.pointer (some ⟨w.heap.size, 0, none⟩)]] (w.alloc (.cells #[.map none] 55)) fun e w' => ∃ (v : Value) (ss : List (List UInt8)), e = .returned v ∧ ss = [] ∧
      w'.ownsRow (w.alloc (.cells #[.map none] 55)).heap.size 9 1 v ss.length ((ss.mergeSort (fun x y => decide (x ≤ y))).map encStr) ∧ (v = .slice none 0 0 ↔ ss = []) ∧ Below (w.alloc (.cells #[.map none] 55)).heap.size (w.alloc (.cells #[.map none] 55)) w' := by
  have hseq : SeqGives Fence.wide 2 Tryz.prog 92 #[.pointer (some ⟨w.heap.size, 0, none⟩)] encStr (fun ss : List (List UInt8) => ss = []) 0 (w.alloc (.cells #[.map none] 55)) :=
    AnyZ.keys_gives_nil (ρ := Tryz.keys33_ren) { Tryz.keys33 with } Fence.wide _ trivial rfl w.heap.size _ (by simp) (by simp)
  exact AnyZ.sorted_in Tryz.sorted32 Fence.wide 5 trivial trivial trivial trivial rfl (by omega) (Tryz.sorts32 _) (enters_of Tryz.func91 (by kernel_rfl) rfl) 92 #[.pointer (some ⟨w.heap.size, 0, none⟩)] trivial (enters_of Tryz.func92 (by kernel_rfl) rfl) _ 0 (Nat.zero_le _) (by omega) _ hseq



end Go.Proofs

/- All entries of a space with no key, with one. -/
namespace Go.Proofs.YticlacjpgjkhcaaGreatDoor
open Go.ChangeShapes Go.WideShapes Go.ChangeAt Go.RowKit Go.WideElems Go.Sort

theorem keys0 {w : World} {b : Nat} (h : MapT.MB w b []) : ∃ (D0 : DataW Unit) (R : Value → Option (DataW Unit × List MemPlace)), w.ownsMap Tryz.prog 9 R b 0 D0 ∧ Maps.size D0 = 0 ∧ strKeys D0 = [] := by
  obtain ⟨es, c, h1, h2, h3⟩ := h
  have he : es.toList = [] := by
    cases hl : es.toList with
    | nil => rfl
    | cons e r => rw [hl] at h2; simp [MapT.pairs, MapT.vals] at h2
  have hsz : es.size = 0 := by rw [← Array.length_toList, he]; rfl
  refine ⟨_, fun _ => some (.lit (.bool true), []), ⟨es, c, h1, ⟨by rw [hsz]; unfold maxLen; decide, h3, fun x hx => ?_⟩, by omega, rfl⟩, ?_, ?_⟩
  · rw [he] at hx
    cases hx
  · rw [he]
    rfl
  · rw [he]
    rfl
theorem Sorted0 (bM : Nat) (w : World) (h : MapT.MB w bM []) : Calls Tryz.prog 32 #[.func (.func 92) #[] #[.pointer (some ⟨w.heap.size, 0, none⟩)]] (w.alloc (.cells #[.map (some bM)] 55)) fun e w' => e = .returned (.slice none 0 0) ∧ Below w.heap.size w w' := by
  obtain ⟨D0, R, hown, hs, hK⟩ := keys0 h
  refine (callsIn_wide.1 (Tryz.slices_Sorted_keys_32_33 bM 0 D0 R w hown (by rw [hs]; unfold maxLen; decide) (by rw [hs]; decide))).mono ?_
  rintro e w' ⟨v', ss, rfl, hp, hrow, hnil, hb⟩
  rw [hK] at hp
  have hss : ss = [] := List.perm_nil.1 hp
  rw [hnil.2 hss]
  exact ⟨rfl, alloc_old.trans (hb.mono (by simp))⟩
set_option maxRecDepth 100000 in
set_option maxHeartbeats 8000000 in
theorem All0 (bS bM : Nat) (w : World) (h : SP w bS bM []) : Calls Tryz.prog 24 #[.pointer (some ⟨bS, 0, none⟩)] w fun e w' => e = .returned (.slice none 0 0) ∧ Below w.heap.size w w' := by
  have MK := Lib.hid (callsIn_wide.1 (Tryz.maps_Keys_33 (some bM) w))
  have SO := Lib.hid (Sorted0 bM w h.2.1)
  obtain ⟨hs1, hs2⟩ := h.cell
  clear h
  go_enter Tryz.func24, Tryz.ntmps24
  go_wp2_with (first | (go_at_call 33; (with_reducible refine (MK.out).mono ?_); rintro e w1 ⟨rfl, rfl⟩) | (go_at_call 32; (with_reducible refine (SO.out).mono ?_); rintro e w2 ⟨rfl, hb2⟩; have B2 := Lib.hid hb2; clear hb2; refine Hid.out ?_))
  refine Lib.hid ?_
  go_wp2_with fail
  go_loopw [3, 15] (fun lv iv wr => Hid (iv = .int .i64 0 ∧ lv = .slice none 0 0 ∧ Below w.heap.size w wr)) (fun _ iv _ => 1 - (intOf iv).toNat)
  case atStart => exact Lib.hid ⟨rfl, rfl, B2.out⟩
  case round =>
    obtain ⟨rfl, rfl, hB⟩ := hrel.out
    have HB := Lib.hid hB
    clear hB
    go_wp2
    go_ret
    exact ⟨rfl, HB.out⟩
end Go.Proofs.YticlacjpgjkhcaaGreatDoor

/- A law's world over data of any kind; calls of a law's do with written arguments. -/
namespace Go.Proofs.YticlacjpgjkhcaaGreatDoor
open Go.ChangeShapes Go.WideShapes Go.ChangeAt Go.RowKit

theorem putD_same {α : Type} (k : ByteArray) (x : α) : ∀ (D : List (ByteArray × α)), findD k D = some x → putD k x D = D
  | [], h => by cases h
  | (y, v) :: r, h => by
    by_cases hy : y = k
    · simp [findD, hy] at h
      simp [putD, hy, h]
    · simp [findD, hy] at h
      simp [putD, hy, putD_same k x r h]
theorem delD_none {α : Type} (k : ByteArray) : ∀ (D : List (ByteArray × α)), findD k D = none → delD k D = D
  | [], _ => rfl
  | (y, v) :: r, h => by
    by_cases hy : y = k
    · simp [findD, hy] at h
    · simp [findD, hy] at h
      simp [delD, hy, delD_none k r h]
/-- A value laid: nothing takes the key away. -/
def setX {α : Type} (k : ByteArray) (xo : Option α) (D : List (ByteArray × α)) : List (ByteArray × α) := match xo with
  | none => delD k D
  | some x => putD k x D
theorem apply_eff {α : Type} [DecidableEq α] (k : ByteArray) (xo : Option α) (D : List (ByteArray × α)) : applyD (dEff k xo D) D = setX k xo D := by
  unfold dEff setX
  cases xo with
  | none =>
    cases hf : findD k D with
    | none => simp [applyD, delD_none k D hf]
    | some y => simp [applyD]
  | some x =>
    cases hf : findD k D with
    | none => simp [applyD]
    | some y =>
      by_cases hy : y = x
      · subst hy
        simp [applyD, putD_same k y D hf]
      · simp [applyD, hy]
theorem may_eff {α : Type} [DecidableEq α] (ok : ByteArray → α → Prop) (k : ByteArray) (xo : Option α) (D : List (ByteArray × α)) (hk : ∀ x, xo = some x → ok k x) (hl : D.length < 4096) : MayD ok (dEff k xo D) D := by
  unfold dEff
  cases xo with
  | none =>
    cases hf : findD k D with
    | none => trivial
    | some y => exact ⟨⟨y, hf⟩, trivial⟩
  | some x =>
    cases hf : findD k D with
    | none => exact ⟨hk x rfl, hl, trivial⟩
    | some y =>
      simp only
      split
      · trivial
      · exact ⟨hk x rfl, hl, trivial⟩
/-- A law's world: the space as data, and that nothing that was there has turned. -/
structure LD {α : Type} (K : Kd α) (ok : ByteArray → α → Prop) (W0 w : World) (bS bM : Nat) (D : List (ByteArray × α)) : Prop where
  sp : SPG K ok w bS bM D
  below : Below W0.heap.size W0 w
  hS : W0.heap.size ≤ bS
  hM : W0.heap.size ≤ bM
theorem LD.step {α : Type} {K : Kd α} {ok : ByteArray → α → Prop} {W0 w w' : World} {bS bM : Nat} {D D' : List (ByteArray × α)} (h : LD K ok W0 w bS bM D) (hs : SPG K ok w' bS bM D') (hK : Kp w.heap.size (fun i => i ≠ bS ∧ i ≠ bM) w w') : LD K ok W0 w' bS bM D' :=
  ⟨hs, h.below.trans (hK.below (fun k hk => ⟨Nat.lt_of_lt_of_le hk (Below.size h.below), by have := h.hS; omega, by have := h.hM; omega⟩)), h.hS, h.hM⟩
theorem LD.old {α : Type} {K : Kd α} {ok : ByteArray → α → Prop} {W0 w w' : World} {bS bM : Nat} {D : List (ByteArray × α)} (h : LD K ok W0 w bS bM D) (hb : Below w.heap.size w w') : LD K ok W0 w' bS bM D := h.step (SPG.below K ok h.sp hb) (.of hb)
theorem LD.mk0 {α : Type} (K : Kd α) (ok : ByteArray → α → Prop) {W0 w : World} {bS bM : Nat} (h : SP w bS bM []) (hb : Below W0.heap.size W0 w) (h1 : W0.heap.size ≤ bS) (h2 : W0.heap.size ≤ bM) : LD K ok W0 w bS bM [] := ⟨⟨⟨[], h, trivial⟩, fun _ h => by cases h⟩, hb, h1, h2⟩
theorem LD.ne {α : Type} {K : Kd α} {ok : ByteArray → α → Prop} {W0 w : World} {bS bM : Nat} {D : List (ByteArray × α)} (h : LD K ok W0 w bS bM D) {b : Nat} {cs : Array Value} {t : TypeId} (hb : w.heap[b]? = some (.cells cs t)) (ht : t ≠ 57) : b ≠ bS ∧ b ≠ bM := SPG.ne K ok h.sp hb ht
theorem LD.sp0 {α : Type} {K : Kd α} {ok : ByteArray → α → Prop} {W0 w : World} {bS bM : Nat} (h : LD K ok W0 w bS bM []) : SP w bS bM [] := by
  obtain ⟨⟨l, h1, h2⟩, _⟩ := h.sp
  cases l with
  | nil => exact h1
  | cons _ _ => exact h2.elim
theorem SSl.lit (X : World) (xs : List ByteArray) (hn : xs.length ≤ 1000) : SSl (X.alloc (.cells (xs.map Value.string).toArray 9)) (.slice (some ⟨X.heap.size, 0, none⟩) xs.length xs.length) xs := by
  refine ⟨_, _, rfl, Nat.le_refl _, by unfold maxLen; omega, fun _ => ⟨X.heap.size, 0, rfl, by simp, fun i s hs => ?_⟩⟩
  rw [cell_of_row _ X.heap.size _ _ 9 (0, 0) (heap_alloc_new X _), Nat.zero_add]
  simp [hs]
/-- What a law's do leaves: its reply, the space. -/
def DoP {α : Type} (K : Kd α) (ok : ByteArray → α → Prop) (W0 : World) (bS bM : Nat) (D' : List (ByteArray × α)) (k n : Int) (s : ByteArray) (R : Nat → World → Value → Prop) (w : World) (e : Ending) (w' : World) : Prop :=
  ∃ A m c, e = .returned (.agg #[.int .i64 k, .int .i64 n, .string s, .slice A m c]) ∧ R w.heap.size w' (.slice A m c) ∧ LD K ok W0 w' bS bM D' ∧ Kp w.heap.size (fun i => i ≠ bS ∧ i ≠ bM) w w'
/-- A do with written arguments. -/
theorem lit0 {α : Type} {K : Kd α} {ok : ByteArray → α → Prop} {G : FuncId} {W0 : World} {bS bM : Nat} {D D' D2 : List (ByteArray × α)} {k n n2 : Int} {s s2 : ByteArray} (X : World) (hL : LD K ok W0 X bS bM D) (xs : List ByteArray) (hn : xs.length ≤ 1000) (hd : ∀ vA w, LD K ok W0 w bS bM D → SSl w vA xs → Calls Tryz.prog G #[.pointer (some ⟨bS, 0, none⟩), vA] w (DoP K ok W0 bS bM D' k n s R0 w)) (hD : D' = D2) (hn2 : n = n2) (hs2 : s = s2) : Calls Tryz.prog G #[.pointer (some ⟨bS, 0, none⟩), .slice (some ⟨X.heap.size, 0, none⟩) xs.length xs.length] (X.alloc (.cells (xs.map Value.string).toArray 9)) fun e w' => e = .returned (.agg #[.int .i64 k, .int .i64 n2, .string s2, .slice none 0 0]) ∧ LD K ok W0 w' bS bM D2 ∧ Kp X.heap.size (fun i => i ≠ bS ∧ i ≠ bM) X w' := by
  subst hD hn2 hs2
  have hb : Below X.heap.size X (X.alloc (.cells (xs.map Value.string).toArray 9)) := alloc_old
  refine (hd _ _ (hL.old hb) (SSl.lit X xs hn)).mono ?_
  rintro e w' ⟨A, m, c, rfl, hR, h2, h3⟩
  cases hR
  exact ⟨rfl, h2, (Kp.of hb).trans (h3.mono (Below.size hb) (fun _ h => h))⟩
theorem litR {α : Type} {K : Kd α} {ok : ByteArray → α → Prop} {G : FuncId} {W0 : World} {bS bM : Nat} {D D' D2 : List (ByteArray × α)} {k n n2 : Int} {s : ByteArray} {R R2 : Nat → World → Value → Prop} (hK : RKeep R) (X : World) (hL : LD K ok W0 X bS bM D) (xs : List ByteArray) (hn : xs.length ≤ 1000) (hd : ∀ vA w, LD K ok W0 w bS bM D → SSl w vA xs → Calls Tryz.prog G #[.pointer (some ⟨bS, 0, none⟩), vA] w (DoP K ok W0 bS bM D' k n s R w)) (hD : D' = D2) (hn2 : n = n2) (hR2 : R = R2) : Calls Tryz.prog G #[.pointer (some ⟨bS, 0, none⟩), .slice (some ⟨X.heap.size, 0, none⟩) xs.length xs.length] (X.alloc (.cells (xs.map Value.string).toArray 9)) fun e w' => ∃ A m c, e = .returned (.agg #[.int .i64 k, .int .i64 n2, .string s, .slice A m c]) ∧ R2 X.heap.size w' (.slice A m c) ∧ LD K ok W0 w' bS bM D2 ∧ Kp X.heap.size (fun i => i ≠ bS ∧ i ≠ bM) X w' := by
  subst hD hn2 hR2
  have hb : Below X.heap.size X (X.alloc (.cells (xs.map Value.string).toArray 9)) := alloc_old
  refine (hd _ _ (hL.old hb) (SSl.lit X xs hn)).mono ?_
  rintro e w' ⟨A, m, c, rfl, hR, h2, h3⟩
  exact ⟨A, m, c, rfl, hK.mono _ _ _ _ hR (Below.size hb), h2, (Kp.of hb).trans (h3.mono (Below.size hb) (fun _ h => h))⟩
theorem RO.own {rs : List (Option ByteArray)} {c : Nat} {v : Value} {X : World} (h : RO rs c X v) : ∀ g, v.ownBlock = some g → ∃ cur, X.heap[g]? = some (.cells cur 29) := by
  intro g hg
  unfold RO World.ownsRow at h
  obtain ⟨_, ⟨rfl, _⟩ | ⟨g', cap, cur, rfl, _, h2, _⟩⟩ := h
  · cases hg
  · cases hg
    exact ⟨cur, h2⟩
theorem RO.below {rs : List (Option ByteArray)} {c : Nat} {v : Value} {X Y : World} (h : RO rs c X v) (hb : Below X.heap.size X Y) : RO rs c Y v := row_below h hb
theorem RO.keepD {α : Type} {K : Kd α} {ok : ByteArray → α → Prop} {rs : List (Option ByteArray)} {c : Nat} {v : Value} {X Y W0 : World} {bS bM : Nat} {D : List (ByteArray × α)} (hK : Kp X.heap.size (fun i => i ≠ bS ∧ i ≠ bM) X Y) (h : LD K ok W0 X bS bM D) (hb : RO rs c X v) : RO rs c Y v := row_kept hb (fun g hg => by
  obtain ⟨cur, hh⟩ := hb.own g hg
  exact hK.block g (lt_blk hh) (h.ne hh (by decide)))
theorem RO.form {rs : List (Option ByteArray)} {c : Nat} {w : World} {A : Option Addr} {m cc : Nat} (h : RO rs c w (.slice A m cc)) (hne : rs ≠ []) : m = rs.length ∧ (∃ g, A = some ⟨g, 0, none⟩) ∧ m ≤ cc := by
  unfold RO World.ownsRow at h
  obtain ⟨_, ⟨h1, h0⟩ | ⟨g, cap, cur, h1, _, _, h3, _⟩⟩ := h
  · exact absurd (List.eq_nil_of_length_eq_zero h0) hne
  · cases h1
    exact ⟨rfl, ⟨g, rfl⟩, h3⟩
theorem keepL {α : Type} {K : Kd α} {ok : ByteArray → α → Prop} {X Y W0 : World} {bS bM b : Nat} {D : List (ByteArray × α)} {cs : Array Value} {t : TypeId} (hK : Kp X.heap.size (fun i => i ≠ bS ∧ i ≠ bM) X Y) (h : LD K ok W0 X bS bM D) (hb : X.heap[b]? = some (.cells cs t)) (ht : t ≠ 57) : Y.heap[b]? = some (.cells cs t) :=
  (hK.block b (lt_blk hb) (h.ne hb ht)).trans hb
theorem take_at {α : Type} (rs : List α) (i : Nat) (r : α) (h : rs[i]? = some r) : rs.take (i + 1) = rs.take i ++ [r] := by
  rw [List.take_add_one, h]
  rfl
end Go.Proofs.YticlacjpgjkhcaaGreatDoor

/- Texts in a reply. -/
namespace Go.Proofs.YticlacjpgjkhcaaGreatDoor
open Go.ChangeShapes Go.WideShapes Go.ChangeAt Go.RowKit

theorem ARR (A : Option Addr) (n c : Nat) (w : World) : Calls Tryz.prog 127 #[.slice A n c] w fun e w' => e = .returned (.agg #[.int .i64 6, .int .i64 0, .string ⟨#[]⟩, .slice A n c]) ∧ Below w.heap.size w w' := by
  go_enter Tryz.func127, Tryz.ntmps127
  go_wp2
  exact bodyPost_ret (v := .agg #[.int .i64 6, .int .i64 0, .string ⟨#[]⟩, .slice A n c]) (by simp [results, Tryz.results127, go_sem]) rfl ⟨rfl, (Below.refl _ _).alloc (Nat.le_refl _) _⟩
set_option maxRecDepth 100000 in
set_option maxHeartbeats 8000000 in
theorem BULKS (v : Value) (zs : List ByteArray) (hn : zs.length ≤ 1000) (w : World) (hA : SSl w v zs) : Calls Tryz.prog 64 #[v] w fun e w' => ∃ A m c, e = .returned (.agg #[.int .i64 6, .int .i64 0, .string ⟨#[]⟩, .slice A m c]) ∧ RO (zs.map some) w.heap.size w' (.slice A m c) ∧ Below w.heap.size w w' := by
  obtain ⟨aA, cap, rfl, p1, p2, p3⟩ := hA
  have A1 := Lib.hid (alloc_old (w := w) (o := .cells #[.int .i64 0, .int .i64 0, .string ⟨#[]⟩, .slice none 0 0] 29))
  have hr := Lib.hid (heap_alloc_new w (.cells #[.int .i64 0, .int .i64 0, .string ⟨#[]⟩, .slice none 0 0] 29))
  obtain ⟨n, hnn⟩ : ∃ n, zs.length = n := ⟨_, rfl⟩
  have P3 := Lib.hid p3
  have HN := Lib.hid hnn
  rw [hnn] at hn ⊢
  have BU := Lib.hid (fun t w => Bulk67 t w)
  have AR := Lib.hid (fun A n c w => ARR A n c w)
  have hw1 : w.heap.size < (w.alloc (.cells #[.int .i64 0, .int .i64 0, .string ⟨#[]⟩, .slice none 0 0] 29)).heap.size := by simp
  clear p1 p2 p3 hnn
  go_enter Tryz.func64, Tryz.ntmps64
  go_wp2_with fail
  have hw1 := Lib.hid (show (w.alloc (.cells #[.int .i64 0, .int .i64 0, .string ⟨#[]⟩, .slice none 0 0] 29)).heap.size = w.heap.size + 1 by simp)
  generalize (w.alloc (.cells #[.int .i64 0, .int .i64 0, .string ⟨#[]⟩, .slice none 0 0] 29)) = W1 at A1 hr hw1 ⊢
  go_loopw [3, 5, 8] (fun lv _ iv wr => ∃ (i : Nat) (A : Option Addr) (C : Nat), i ≤ n ∧ lv = .slice A i C ∧ iv = .int .i64 i ∧ Hid (RO ((zs.map some).take i) W1.heap.size wr (.slice A i C) ∧ Below W1.heap.size W1 wr)) (fun _ _ iv _ => n - (intOf iv).toNat)
  case atStart => exact ⟨0, none, 0, Nat.zero_le _, rfl, rfl, Lib.hid ⟨World.ownsRow_nil _ _ _ _, Below.refl _ _⟩⟩
  case round =>
    obtain ⟨i, A, C, hi, rfl, rfl, HQ⟩ := hrel
    by_cases hlt : i < n
    · have q0 : (i : Int) < (n : Int) := by omega
      have hlz : i < zs.length := by rw [HN.out]; exact hlt
      obtain ⟨blk, off, rfl, hblt, hc⟩ := P3.out (by intro e; rw [e] at hlz; simp at hlz)
      obtain ⟨s, hs⟩ : ∃ s, zs[i]? = some s := ⟨_, List.getElem?_eq_getElem hlz⟩
      have ca : wr.cell? ⟨blk, off + i, none⟩ = some (.string s) := ((A1.out.trans (HQ.out.2.mono (Below.size A1.out))).cell (p := ⟨blk, off + i, none⟩) hblt).trans (hc i s hs)
      have HT := Lib.hid (show ((zs.map some).take i).length = i by simp; omega)
      have hcc := Lib.hid (Below.size HQ.out.2)
      have HTK := Lib.hid (take_at (zs.map some) i (some s) (by simp [hs]))
      clear hc hs
      go_wp2_with (first | (go_at_call 119; (with_reducible refine (BU.out _ _).mono ?_); rintro e w5 ⟨rfl, h5⟩; have D5 := Lib.hid (show Below wr.heap.size wr (w5.alloc (.cells #[.int .i64 4, .int .i64 0, .string s, .slice none 0 0] 29)) from h5.trans (alloc_old.mono (Below.size h5))); have b5 := Lib.hid (heap_alloc_new w5 (.cells #[.int .i64 4, .int .i64 0, .string s, .slice none 0 0] 29)); have R5 := Lib.hid (row_below HQ.out.1 D5.out); have z5 := Lib.hid (Nat.le_trans hcc.out (Below.size D5.out)); clear h5) | (at_builtin; refine append_RO _ rfl _ _ rfl W1.heap.size _ ((zs.map some).take i) i HT.out rfl R5.out (some s) _ rfl b5.out (by omega) z5.out ?_; intro g C2 w6 hR6 hB6))
      exact ⟨⟨i + 1, _, C2, by omega, rfl, by go_num, Lib.hid ⟨by rw [HTK.out]; exact hR6, (HQ.out.2.trans (D5.out.mono hcc.out)).trans hB6⟩⟩, by simp [intOf]; omega⟩
    · obtain rfl : i = n := by omega
      have q0 : ¬ (i : Int) < (i : Int) := by omega
      have hQ := HQ.out
      rw [List.take_of_length_le (by simp [HN.out])] at hQ
      have r1 := Lib.hid (blk_below hr.out (hQ.2.mono (Nat.le_refl _)))
      have H1 := Lib.hid hQ.1
      have H2 := Lib.hid hQ.2
      clear hQ HQ
      go_wp2_with (first | (go_at_call 127; (with_reducible refine (AR.out _ _ _ _).mono ?_); rintro e w7 ⟨rfl, h7⟩; have H7 := Lib.hid (row_below H1.out h7); have B7 := Lib.hid (H2.out.trans (h7.mono (Below.size H2.out))); obtain ⟨⟨c0, c1, c2, c3⟩, ⟨f0, f1, f2, f3⟩⟩ := cells4 (blk_below r1.out h7); clear h7))
      refine bodyPost_ret (v := .agg #[.int .i64 6, .int .i64 0, .string ⟨#[]⟩, .slice A i C]) (by simp [results, Tryz.results64, go_sem, c0, c1, c2, c3]) rfl ⟨A, i, C, rfl, row_mono (row_kept H7.out (fun g hg => far4 _ _ _ _ (fun e => ?_))) (by rw [hw1.out]; omega), ((((((A1.out.trans (B7.out.mono (Below.size A1.out))).setCell (Nat.le_refl _) _).setCell (Nat.le_refl _) _).setCell (Nat.le_refl _) _).setCell (Nat.le_refl _) _))⟩
      have h1 := (row_own H7.out g hg).1
      rw [hw1.out] at h1
      omega
end Go.Proofs.YticlacjpgjkhcaaGreatDoor

/- points: PPOS, PSUM. -/
namespace Go.Proofs.YticlacjpgjkhcaaGreatDoor
open Go.ChangeShapes Go.WideShapes Go.ChangeAt Go.RowKit Go.Fl

theorem SSl.two {w : World} {g : Nat} {a b : ByteArray} (h : w.heap[g]? = some (.cells #[.string a, .string b] 9)) : SSl w (.slice (some ⟨g, 0, none⟩) 2 2) [a, b] := by
  refine ⟨_, 2, rfl, Nat.le_refl _, by unfold maxLen; omega, fun _ => ⟨g, 0, rfl, lt_blk h, fun i s hs => ?_⟩⟩
  rw [cell_of_row _ g _ _ 9 (0, 0) h]
  match i, hs with
  | 0, hs => cases hs; rfl
  | 1, hs => cases hs; rfl
set_option maxRecDepth 100000 in
set_option maxHeartbeats 8000000 in
theorem cPPOS (bS bM : Nat) (D : List (ByteArray × List (ByteArray × Int × Int))) (now : Int) (NM k : ByteArray) (F : List (ByteArray × Int × Int)) (hne : F ≠ []) (hF : (findD k D).getD [] = F) (ho2 : ∀ p ∈ F, okP2 p) (h31 : F.length ≤ 31) (i : Nat) (q : ByteArray × Int × Int) (hq : F[i]? = some q) (hri : ∀ (i : Nat) (p q : ByteArray × Int × Int), F[i]? = some p → F[i + 1]? = some q → bl p.1 < bl q.1) (w : World) (W0 : World) (hT : Tab W0) (hW : Below W0.heap.size W0 w) : CmdD KP okP 39 bS bM D now [NM, k, q.1] 6 0 ⟨#[]⟩ (RO [some (numT q.2.1), some (numT q.2.2)]) [] w := by
  intro j vA hS hj hA
  show Calls Tryz.prog 39 #[.pointer (some ⟨j, 0, none⟩)] w _
  have hjw := lt_blk hj
  obtain ⟨blk, off, cap, rfl, hAR⟩ := AR.of hj hA (by simp)
  have A1 := Lib.hid (alloc_old (w := w) (o := .cells #[.int .i64 0, .int .i64 0, .string ⟨#[]⟩, .slice none 0 0] 29))
  have hr := Lib.hid (heap_alloc_new w (.cells #[.int .i64 0, .int .i64 0, .string ⟨#[]⟩, .slice none 0 0] 29))
  obtain ⟨n, hn⟩ : ∃ n, F.length = n := ⟨_, rfl⟩
  have hl2 : ([NM, k, q.1]).length = 3 := rfl
  rw [hl2] at hj hA ⊢
  have hz : (w.alloc (.cells #[.int .i64 0, .int .i64 0, .string ⟨#[]⟩, .slice none 0 0] 29)).heap.size = w.heap.size + 1 := by simp
  have HO := pof_any bS bM j D now blk off cap ([NM, k, q.1]) 3 hl2 (by omega) k rfl (.slice none 0 0) F hF (w.alloc (.cells #[.int .i64 0, .int .i64 0, .string ⟨#[]⟩, .slice none 0 0] 29)) (SPG.below KP okP hS A1.out) (hj.below A1.out) (hAR.below A1.out)
  simp only [hz, hn] at HO
  have HO := Lib.hid HO
  have HJ := Lib.hid hj
  have HS := Lib.hid hS
  have HA := Lib.hid hA
  have HAR := Lib.hid hAR
  clear hS hj hA hAR hF hz
  have CJ := Lib.hid (show ∀ Y, Below w.heap.size w Y → Y.cell? ⟨j, 2, none⟩ = some (.slice (some ⟨blk, off, none⟩) 3 cap) from fun Y hY => by
    have h := (HAR.out.job Y hY).1
    rw [hl2] at h
    exact h)
  have CA := Lib.hid (fun Y hY i s hs => HAR.out.arg Y hY i s hs)
  have hcap : 3 ≤ cap := by have := HAR.out.len; rw [hl2] at this; exact this
  have hcap2 := HAR.out.cap
  have HO2 := Lib.hid ho2
  have HN := Lib.hid hn
  have HNE := Lib.hid hne
  rw [hn] at h31
  clear ho2 hn hne
  have PL := PlN.at_ hri hq
  have hi := (List.getElem?_eq_some_iff.1 hq).1
  rw [HN.out] at hi
  have FI := Lib.hid (fun A C X h => pfind_any A n C (w.heap.size + 1) F HN.out q.1 i PL true ⟨fun _ => ⟨q, hq, rfl⟩, fun _ => rfl⟩ (by omega) X h)
  have PT := Lib.hid (fun X (hX : Below w.heap.size w X) => ptold_any hT q.2.1 q.2.2 (HO2.out q (List.mem_of_getElem? hq)).1 (HO2.out q (List.mem_of_getElem? hq)).2 X (hW.trans (hX.mono (Below.size hW))))
  have HQ := Lib.hid hq
  have i0 : (i : Int) < (n : Int) := by omega
  clear PL hq hri
  go_enter Tryz.func39, Tryz.ntmps39
  go_wp2_with (first | (go_at_call 99; (with_reducible refine (HO.out).mono ?_); rintro e w1 ⟨A, C, rfl, hR, h1⟩; have R1 := Lib.hid hR; have B1 := Lib.hid (A1.out.trans (h1.mono (Nat.le_succ _))); have r1 := Lib.hid ((h1.block w.heap.size (Nat.lt_succ_self _)).trans hr.out); clear h1 hR; refine Hid.out ?_))
  refine Lib.hid ?_
  have AE := Lib.hid (alloc_old (w := w1) (o := .cells #[.string k, .int .i64 5, .string ⟨#[]⟩, .slice none 0 0, .slice none 0 0, .slice none 0 0, .slice A n C, .int .i64 0] 66))
  have re := Lib.hid (heap_alloc_new w1 (.cells #[.string k, .int .i64 5, .string ⟨#[]⟩, .slice none 0 0, .slice none 0 0, .slice none 0 0, .slice A n C, .int .i64 0] 66))
  have R2 := Lib.hid (R1.out.below AE.out)
  have r2 := Lib.hid (blk_below r1.out AE.out)
  have B2 := Lib.hid (B1.out.trans (AE.out.mono (Below.size B1.out)))
  have z1 := lt_blk r1.out
  have z2 : w1.heap.size < (w1.alloc (.cells #[.string k, .int .i64 5, .string ⟨#[]⟩, .slice none 0 0, .slice none 0 0, .slice none 0 0, .slice A n C, .int .i64 0] 66)).heap.size := by simp
  obtain ⟨g, C', eA, _⟩ := R2.out.form HNE.out
  rw [HN.out] at eA
  cases eA
  have F2 := Lib.hid (FI.out _ _ _ R2.out)
  have cj := CJ.out _ B2.out
  have ca := CA.out _ B2.out 2 q.1 rfl
  go_wp2_with (first | (go_at_call 101; (with_reducible refine (F2.out).mono ?_); rintro e w3 ⟨rfl, h3⟩; have B3 := Lib.hid (B2.out.trans (h3.mono (Below.size B2.out))); have r3 := Lib.hid (blk_below r2.out h3); obtain ⟨d0, d1⟩ := (R2.out.below h3).at HN.out i q HQ.out; clear h3) | (go_at_call 105; (with_reducible refine (PT.out _ B3.out).mono ?_); rintro e w4 ⟨gT, rfl, hG, hgl, hB⟩; have B4 := Lib.hid (B3.out.trans (hB.mono (Below.size B3.out))); have r4 := Lib.hid (blk_below r3.out hB); have BK := Lib.hid (BULKS _ _ (by simp) w4 (SSl.two hG)); clear hG hgl hB) | (go_at_call 64; (with_reducible refine (BK.out).mono ?_); rintro e w5 ⟨A5, m5, c5, rfl, hR5, h1⟩; have B5 := Lib.hid (B4.out.trans (h1.mono (Below.size B4.out))); have R5 := Lib.hid hR5; obtain ⟨⟨c0, c1, c2, c3⟩, ⟨f0, f1, f2, f3⟩⟩ := cells4 (blk_below r4.out h1); clear h1 hR5))
  have BF : Below w.heap.size w ((((w5.setCell ⟨w.heap.size, 0, none⟩ (.int .i64 6)).setCell ⟨w.heap.size, 1, none⟩ (.int .i64 0)).setCell ⟨w.heap.size, 2, none⟩ (.string ⟨#[]⟩)).setCell ⟨w.heap.size, 3, none⟩ (.slice A5 m5 c5)) := ((((B5.out.setCell (Nat.le_refl _) _).setCell (Nat.le_refl _) _).setCell (Nat.le_refl _) _).setCell (Nat.le_refl _) _)
  refine bodyPost_ret (v := .agg #[.int .i64 6, .int .i64 0, .string ⟨#[]⟩, .slice A5 m5 c5]) (by simp [results, Tryz.results39, go_sem, c0, c1, c2, c3]) rfl ⟨A5, m5, c5, rfl, row_mono (row_kept R5.out (fun g hg => far4 _ _ _ _ (fun e => ?_))) (Below.size B4.out), ⟨_, JD.nil KP _ (HJ.out.below BF)⟩, .of BF⟩
  have h1 := (row_own R5.out g hg).1
  have h2 := lt_blk r4.out
  omega
set_option maxRecDepth 100000 in
set_option maxHeartbeats 8000000 in
theorem cPSUM (bS bM : Nat) (D : List (ByteArray × List (ByteArray × Int × Int))) (now : Int) (NM k : ByteArray) (F : List (ByteArray × Int × Int)) (hne : F ≠ []) (hF : (findD k D).getD [] = F) (ho2 : ∀ p ∈ F, okP2 p) (h31 : F.length ≤ 31) (hs : ∀ i, i ≤ F.length → okI (sX (F.take i)) = true ∧ okI (sY (F.take i)) = true) (w : World) (W0 : World) (hT : Tab W0) (hW : Below W0.heap.size W0 w) : CmdD KP okP 42 bS bM D now [NM, k] 6 0 ⟨#[]⟩ (RO [some (numT (sX F)), some (numT (sY F))]) [] w := by
  intro j vA hS hj hA
  show Calls Tryz.prog 42 #[.pointer (some ⟨j, 0, none⟩)] w _
  have hjw := lt_blk hj
  obtain ⟨blk, off, cap, rfl, hAR⟩ := AR.of hj hA (by simp)
  have A1 := Lib.hid (alloc_old (w := w) (o := .cells #[.int .i64 0, .int .i64 0, .string ⟨#[]⟩, .slice none 0 0] 29))
  have hr := Lib.hid (heap_alloc_new w (.cells #[.int .i64 0, .int .i64 0, .string ⟨#[]⟩, .slice none 0 0] 29))
  obtain ⟨n, hn⟩ : ∃ n, F.length = n := ⟨_, rfl⟩
  have hl2 : ([NM, k]).length = 2 := rfl
  rw [hl2] at hj hA ⊢
  have hz : (w.alloc (.cells #[.int .i64 0, .int .i64 0, .string ⟨#[]⟩, .slice none 0 0] 29)).heap.size = w.heap.size + 1 := by simp
  have HO := pof_any bS bM j D now blk off cap ([NM, k]) 2 hl2 (by omega) k rfl (.slice none 0 0) F hF (w.alloc (.cells #[.int .i64 0, .int .i64 0, .string ⟨#[]⟩, .slice none 0 0] 29)) (SPG.below KP okP hS A1.out) (hj.below A1.out) (hAR.below A1.out)
  simp only [hz, hn] at HO
  have HO := Lib.hid HO
  have HJ := Lib.hid hj
  have HS := Lib.hid hS
  have HA := Lib.hid hA
  have HAR := Lib.hid hAR
  clear hS hj hA hAR hF hz
  have CJ := Lib.hid (show ∀ Y, Below w.heap.size w Y → Y.cell? ⟨j, 2, none⟩ = some (.slice (some ⟨blk, off, none⟩) 2 cap) from fun Y hY => by
    have h := (HAR.out.job Y hY).1
    rw [hl2] at h
    exact h)
  have CA := Lib.hid (fun Y hY i s hs => HAR.out.arg Y hY i s hs)
  have hcap : 2 ≤ cap := by have := HAR.out.len; rw [hl2] at this; exact this
  have hcap2 := HAR.out.cap
  have HO2 := Lib.hid ho2
  have HN := Lib.hid hn
  have HNE := Lib.hid hne
  rw [hn] at h31 hs
  clear ho2 hn hne
  have hs9 := hs n (Nat.le_refl _)
  rw [List.take_of_length_le (by rw [HN.out]; exact Nat.le_refl _)] at hs9
  have SU := Lib.hid (fun A C X h => psum_any A n C (w.heap.size + 1) F HN.out (by omega) HO2.out hs X h)
  have PT := Lib.hid (fun X (hX : Below w.heap.size w X) => ptold_any hT (sX F) (sY F) hs9.1 hs9.2 X (hW.trans (hX.mono (Below.size hW))))
  clear hs hs9
  go_enter Tryz.func42, Tryz.ntmps42
  go_wp2_with (first | (go_at_call 99; (with_reducible refine (HO.out).mono ?_); rintro e w1 ⟨A, C, rfl, hR, h1⟩; have R1 := Lib.hid hR; have B1 := Lib.hid (A1.out.trans (h1.mono (Nat.le_succ _))); have r1 := Lib.hid ((h1.block w.heap.size (Nat.lt_succ_self _)).trans hr.out); clear h1 hR; refine Hid.out ?_))
  refine Lib.hid ?_
  have AE := Lib.hid (alloc_old (w := w1) (o := .cells #[.string k, .int .i64 5, .string ⟨#[]⟩, .slice none 0 0, .slice none 0 0, .slice none 0 0, .slice A n C, .int .i64 0] 66))
  have re := Lib.hid (heap_alloc_new w1 (.cells #[.string k, .int .i64 5, .string ⟨#[]⟩, .slice none 0 0, .slice none 0 0, .slice none 0 0, .slice A n C, .int .i64 0] 66))
  have R2 := Lib.hid (R1.out.below AE.out)
  have r2 := Lib.hid (blk_below r1.out AE.out)
  have B2 := Lib.hid (B1.out.trans (AE.out.mono (Below.size B1.out)))
  have z1 := lt_blk r1.out
  have z2 : w1.heap.size < (w1.alloc (.cells #[.string k, .int .i64 5, .string ⟨#[]⟩, .slice none 0 0, .slice none 0 0, .slice none 0 0, .slice A n C, .int .i64 0] 66)).heap.size := by simp
  have F2 := Lib.hid (SU.out _ _ _ R2.out)
  go_wp2_with (first | (go_at_call 107; (with_reducible refine (F2.out).mono ?_); rintro e w3 ⟨rfl, h3⟩; have B3 := Lib.hid (B2.out.trans (h3.mono (Below.size B2.out))); have r3 := Lib.hid (blk_below r2.out h3); clear h3) | (go_at_call 105; (with_reducible refine (PT.out _ B3.out).mono ?_); rintro e w4 ⟨gT, rfl, hG, hgl, hB⟩; have B4 := Lib.hid (B3.out.trans (hB.mono (Below.size B3.out))); have r4 := Lib.hid (blk_below r3.out hB); have BK := Lib.hid (BULKS _ _ (by simp) w4 (SSl.two hG)); clear hG hgl hB) | (go_at_call 64; (with_reducible refine (BK.out).mono ?_); rintro e w5 ⟨A5, m5, c5, rfl, hR5, h1⟩; have B5 := Lib.hid (B4.out.trans (h1.mono (Below.size B4.out))); have R5 := Lib.hid hR5; obtain ⟨⟨c0, c1, c2, c3⟩, ⟨f0, f1, f2, f3⟩⟩ := cells4 (blk_below r4.out h1); clear h1 hR5))
  have BF : Below w.heap.size w ((((w5.setCell ⟨w.heap.size, 0, none⟩ (.int .i64 6)).setCell ⟨w.heap.size, 1, none⟩ (.int .i64 0)).setCell ⟨w.heap.size, 2, none⟩ (.string ⟨#[]⟩)).setCell ⟨w.heap.size, 3, none⟩ (.slice A5 m5 c5)) := ((((B5.out.setCell (Nat.le_refl _) _).setCell (Nat.le_refl _) _).setCell (Nat.le_refl _) _).setCell (Nat.le_refl _) _)
  refine bodyPost_ret (v := .agg #[.int .i64 6, .int .i64 0, .string ⟨#[]⟩, .slice A5 m5 c5]) (by simp [results, Tryz.results42, go_sem, c0, c1, c2, c3]) rfl ⟨A5, m5, c5, rfl, row_mono (row_kept R5.out (fun g hg => far4 _ _ _ _ (fun e => ?_))) (Below.size B4.out), ⟨_, JD.nil KP _ (HJ.out.below BF)⟩, .of BF⟩
  have h1 := (row_own R5.out g hg).1
  have h2 := lt_blk r4.out
  omega
end Go.Proofs.YticlacjpgjkhcaaGreatDoor
