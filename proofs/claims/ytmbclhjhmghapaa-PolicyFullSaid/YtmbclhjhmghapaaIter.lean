/-
  DERIVED: THE SHELF's CONTRACTS AT THIS DUMP, IN PLAIN WORDS (tools/lay-plain.mjs out of 'TryIter.lean', which tools/lay-shelf.mjs wrote): THE SAME DECLARATIONS UNDER THE SAME NAMES: 'import', 'namespace', 'open', 'def', 'theorem' AND NOTHING ELSE: no command of the shelf's: FOR A HAND-IN. Each laying: the table of numbers ('.._ren') and one theorem, a field a fact of the dump's own or the kernel's comparison; each contract: ONE APPLICATION.
-/
import Derived.Shelf.SlIter.Nil
import Derived.Shelf.SortM.Plain
import Derived.Shelf.SortM.SortNone
import Derived.Ground.GgzProg
import Derived.Ground.SlgmProg
import Derived.Test.YtmbclhjhmghapaaProg
namespace Go.Proofs
open Go.Shelf
def Try.keys47_ren : Go.Shelf.Ren := ⟨fun | 7 => 47 | 10 => 70 | n => n, fun | 23 => 86 | 26 => 9 | 3 => 91 | 28 => 95 | 0 => 0 | 27 => 94 | 33 => 109 | 4 => 4 | n => n, fun | n => n⟩
theorem Try.keys47 : Go.Proofs.SlLaysZ.n7 Try.prog Try.keys47_ren := {
  mixed := by kernel_rfl
  f7 := ⟨Try.f47.name, by decide, Try.func47.trans (congrArg some (by kernel_rfl))⟩
  f10 := ⟨Try.f70.name, by decide, Try.func70.trans (congrArg some (by kernel_rfl))⟩
  t0 := Try.underlying0
  a0 := Try.isAgg0
  z0 := Try.sizeOf0
  v0 := Try.zeroValue0
  t4 := Try.underlying4
  a4 := Try.isAgg4
  z4 := Try.sizeOf4
  v4 := Try.zeroValue4
  t23 := Try.underlying86
  a23 := Try.isAgg86
  z23 := Try.sizeOf86
  v23 := Try.zeroValue86
  t26 := Try.underlying9
  a26 := Try.isAgg9
  z26 := Try.sizeOf9
  v26 := Try.zeroValue9
  t27 := Try.underlying94
  a27 := Try.isAgg94
  z27 := Try.sizeOf94
  v27 := Try.zeroValue94
  t28 := Try.underlying95
  a28 := Try.isAgg95
  z28 := Try.sizeOf95
  v28 := Try.zeroValue95
  t33 := Try.underlying109
  a33 := Try.isAgg109
  z33 := Try.sizeOf109
  v33 := Try.zeroValue109 }
def Try.sorted46_ren : Go.Shelf.Ren := ⟨fun | 6 => 46 | 8 => 68 | 9 => 69 | 11 => 81 | 13 => 83 | 12 => 82 | 23 => 96 | 24 => 97 | 14 => 87 | 15 => 88 | 16 => 89 | 17 => 90 | 18 => 91 | 19 => 92 | 20 => 93 | 21 => 94 | 22 => 95 | 25 => 99 | 26 => 100 | 27 => 101 | 28 => 102 | 29 => 103 | 30 => 104 | 31 => 105 | n => n, fun | 26 => 9 | 28 => 95 | 24 => 46 | 0 => 0 | 3 => 3 | 37 => 125 | 48 => 137 | 50 => 139 | 4 => 4 | 40 => 129 | 39 => 128 | 45 => 134 | 5 => 5 | 9 => 9 | 51 => 140 | 55 => 144 | 57 => 146 | 58 => 147 | 33 => 109 | n => n, fun | n => n⟩
theorem Try.sorted46 : Go.Proofs.SlLaysZ.n6 Try.prog Try.sorted46_ren := {
  mixed := by kernel_rfl
  f6 := ⟨Try.f46.name, by decide, Try.func46.trans (congrArg some (by kernel_rfl))⟩
  f8 := ⟨Try.f68.name, by decide, Try.func68.trans (congrArg some (by kernel_rfl))⟩
  f11 := ⟨Try.f81.name, by decide, Try.func81.trans (congrArg some (by kernel_rfl))⟩
  t0 := Try.underlying0
  a0 := Try.isAgg0
  z0 := Try.sizeOf0
  v0 := Try.zeroValue0
  t24 := Try.underlying46
  a24 := Try.isAgg46
  z24 := Try.sizeOf46
  v24 := Try.zeroValue46
  t26 := Try.underlying9
  a26 := Try.isAgg9
  z26 := Try.sizeOf9
  v26 := Try.zeroValue9
  t28 := Try.underlying95
  a28 := Try.isAgg95
  z28 := Try.sizeOf95
  v28 := Try.zeroValue95
  i26 := by kernel_rfl }
def Try.sort69_ren : Go.Shelf.Ren := ⟨fun | 6 => 69 | 8 => 83 | 9 => 82 | 19 => 96 | 20 => 97 | 21 => 87 | 22 => 88 | 23 => 89 | 24 => 90 | 25 => 91 | 26 => 92 | 27 => 93 | 28 => 94 | 29 => 95 | 36 => 99 | 31 => 100 | 32 => 101 | 37 => 102 | 38 => 103 | 39 => 104 | 41 => 105 | n => n, fun | 27 => 46 | 29 => 9 | 3 => 3 | 32 => 125 | 26 => 46 | 0 => 0 | 44 => 137 | 46 => 139 | 4 => 4 | 36 => 129 | 35 => 128 | 41 => 134 | 5 => 5 | 9 => 9 | 53 => 140 | 57 => 144 | 63 => 146 | 64 => 147 | n => n, fun | n => n⟩
theorem Try.sort69 : Go.Proofs.SlLaysM.n6 Try.prog Try.sort69_ren := {
  mixed := by kernel_rfl
  f6 := ⟨Try.f69.name, by decide, Try.func69.trans (congrArg some (by kernel_rfl))⟩
  f8 := Try.func83.trans (congrArg some (by kernel_rfl))
  f9 := ⟨Try.f82.name, by decide, Try.func82.trans (congrArg some (by kernel_rfl))⟩
  f19 := Try.func96.trans (congrArg some (by kernel_rfl))
  f20 := Try.func97.trans (congrArg some (by kernel_rfl))
  f21 := ⟨Try.f87.name, by decide, Try.func87.trans (congrArg some (by kernel_rfl))⟩
  f22 := ⟨Try.f88.name, by decide, Try.func88.trans (congrArg some (by kernel_rfl))⟩
  f23 := ⟨Try.f89.name, by decide, Try.func89.trans (congrArg some (by kernel_rfl))⟩
  f24 := ⟨Try.f90.name, by decide, Try.func90.trans (congrArg some (by kernel_rfl))⟩
  f25 := ⟨Try.f91.name, by decide, Try.func91.trans (congrArg some (by kernel_rfl))⟩
  f26 := ⟨Try.f92.name, by decide, Try.func92.trans (congrArg some (by kernel_rfl))⟩
  f27 := ⟨Try.f93.name, by decide, Try.func93.trans (congrArg some (by kernel_rfl))⟩
  f28 := ⟨Try.f94.name, by decide, Try.func94.trans (congrArg some (by kernel_rfl))⟩
  f29 := ⟨Try.f95.name, by decide, Try.func95.trans (congrArg some (by kernel_rfl))⟩
  f31 := Try.func100.trans (congrArg some (by kernel_rfl))
  f32 := Try.func101.trans (congrArg some (by kernel_rfl))
  f36 := ⟨Try.f99.name, by decide, Try.func99.trans (congrArg some (by kernel_rfl))⟩
  f37 := ⟨Try.f102.name, by decide, Try.func102.trans (congrArg some (by kernel_rfl))⟩
  f38 := ⟨Try.f103.name, by decide, Try.func103.trans (congrArg some (by kernel_rfl))⟩
  f39 := ⟨Try.f104.name, by decide, Try.func104.trans (congrArg some (by kernel_rfl))⟩
  f41 := ⟨Try.f105.name, by decide, Try.func105.trans (congrArg some (by kernel_rfl))⟩
  t0 := Try.underlying0
  a0 := Try.isAgg0
  z0 := Try.sizeOf0
  v0 := Try.zeroValue0
  t3 := Try.underlying3
  a3 := Try.isAgg3
  z3 := Try.sizeOf3
  v3 := Try.zeroValue3
  t4 := Try.underlying4
  a4 := Try.isAgg4
  z4 := Try.sizeOf4
  v4 := Try.zeroValue4
  t5 := Try.underlying5
  a5 := Try.isAgg5
  z5 := Try.sizeOf5
  v5 := Try.zeroValue5
  t9 := Try.underlying9
  a9 := Try.isAgg9
  z9 := Try.sizeOf9
  v9 := Try.zeroValue9
  t26 := Try.underlying46
  a26 := Try.isAgg46
  z26 := Try.sizeOf46
  v26 := Try.zeroValue46
  t27 := Try.underlying46
  a27 := Try.isAgg46
  z27 := Try.sizeOf46
  v27 := Try.zeroValue46
  t29 := Try.underlying9
  a29 := Try.isAgg9
  z29 := Try.sizeOf9
  v29 := Try.zeroValue9
  t32 := Try.underlying125
  a32 := Try.isAgg125
  z32 := Try.sizeOf125
  v32 := Try.zeroValue125
  t35 := Try.underlying128
  a35 := Try.isAgg128
  z35 := Try.sizeOf128
  v35 := Try.zeroValue128
  t36 := Try.underlying129
  a36 := Try.isAgg129
  z36 := Try.sizeOf129
  v36 := Try.zeroValue129
  t41 := Try.underlying134
  a41 := Try.isAgg134
  z41 := Try.sizeOf134
  v41 := Try.zeroValue134
  t44 := Try.underlying137
  a44 := Try.isAgg137
  z44 := Try.sizeOf137
  v44 := Try.zeroValue137
  t46 := Try.underlying139
  a46 := Try.isAgg139
  z46 := Try.sizeOf139
  v46 := Try.zeroValue139
  t53 := Try.underlying140
  a53 := Try.isAgg140
  z53 := Try.sizeOf140
  v53 := Try.zeroValue140
  t57 := Try.underlying144
  a57 := Try.isAgg144
  z57 := Try.sizeOf144
  v57 := Try.zeroValue144
  t63 := Try.underlying146
  a63 := Try.isAgg146
  z63 := Try.sizeOf146
  v63 := Try.zeroValue146
  t64 := Try.underlying147
  a64 := Try.isAgg147
  z64 := Try.sizeOf147
  v64 := Try.zeroValue147 }
open Go.RowKit Go.Maps Go.Sort in
/-- slices.Sort's two contracts at this dump, at the fence that asks nothing. -/
theorem Try.sorts46 (m : Nat) : AnyZ.SortsIn Try.prog Try.sorted46_ren Fence.wide m :=
  ⟨fun blk off cap ss W hH hblk hsz => callsIn_wide.2 (AnyM.slices_Sort_string Try.sort69 blk off cap ss W hH hblk hsz),
   fun p cap W => callsIn_wide.2 (AnyM.slices_Sort_string_none Try.sort69 p cap W)⟩
open Go.RowKit Go.Maps Go.Sort in
/-- **maps.Keys[map[string]*legate/api.Principal,string,*legate/api.Principal], at whatever map, the nil one too:** a function value over ONE NEW BLOCK, which holds the map. -/
theorem Try.maps_Keys_47 (mb : Option Nat) (W : World) : CallsIn Fence.wide 5 Try.prog 47 #[.map mb] W fun e w' => e = .returned (.func (.func 70) #[] #[.pointer (some ⟨W.heap.size, 0, none⟩)]) ∧ w' = W.alloc (.cells #[.map mb] 86) :=
  AnyZ.keys_in Try.keys47 Fence.wide 5 trivial rfl mb W
open Go.RowKit Go.Maps Go.Sort in
/-- **slices.Sorted[string] AT WHAT maps.Keys[map[string]*legate/api.Principal,string,*legate/api.Principal] HANDED BACK FOR A MAP THAT IS NOT nil** ('w': the world AHEAD of maps.Keys' call): A NEW SLICE THAT HOLDS THE MAP's KEYS, SORTED; nil just where it has none; nothing that lay before has turned. -/
theorem Try.slices_Sorted_keys_46_47 {H : Type} (b nn : Nat) (D0 : DataW H) (R : Value → Option (DataW H × List MemPlace)) (w : World) (hown : w.ownsMap Try.prog 9 R b nn D0) (hmax : Maps.size D0 ≤ maxLen) (hbytes : Maps.size D0 * 16 ≤ 140737488355328) :
    CallsIn Fence.wide 5 Try.prog 46 #[.func (.func 70) #[] #[.pointer (some ⟨w.heap.size, 0, none⟩)]] (w.alloc (.cells #[.map (some b)] 86)) fun e w' => ∃ (v : Value) (ss : List (List UInt8)), e = .returned v ∧ ss.Perm (strKeys D0) ∧
      w'.ownsRow (w.alloc (.cells #[.map (some b)] 86)).heap.size 9 1 v ss.length ((ss.mergeSort (fun x y => decide (x ≤ y))).map encStr) ∧ (v = .slice none 0 0 ↔ ss = []) ∧ Below (w.alloc (.cells #[.map (some b)] 86)).heap.size (w.alloc (.cells #[.map (some b)] 86)) w' := by
  have hbl := hown.lt
  have hseq : SeqGives Fence.wide 2 Try.prog 70 #[.pointer (some ⟨w.heap.size, 0, none⟩)] encStr (fun ss => ss.Perm (strKeys D0)) (Maps.size D0) (w.alloc (.cells #[.map (some b)] 86)) :=
    AnyZ.keys_gives (ρ := Try.keys47_ren) { Try.keys47 with } Fence.wide _ trivial rfl (by omega) w.heap.size b nn D0 _ (by simp) (by simp) (by
      obtain ⟨es, clock, hb, Ft, hs, hD⟩ := hown
      exact ⟨es, clock, (Below.heap_alloc _ _ b hbl).trans hb, Ft, hs, hD⟩)
  exact AnyZ.sorted_in Try.sorted46 Fence.wide 5 trivial trivial trivial trivial rfl (by omega) (Try.sorts46 _) (enters_of Try.func69 (by kernel_rfl) rfl) 70 #[.pointer (some ⟨w.heap.size, 0, none⟩)] trivial (enters_of Try.func70 (by kernel_rfl) rfl) _ _ hmax hbytes _ hseq
open Go.RowKit Go.Maps Go.Sort in
/-- **.. AND FOR THE nil MAP: nil.** -/
theorem Try.slices_Sorted_keys_nil_46_47 (w : World) :
    CallsIn Fence.wide 5 Try.prog 46 #[.func (.func 70) #[] #[.pointer (some ⟨w.heap.size, 0, none⟩)]] (w.alloc (.cells #[.map none] 86)) fun e w' => ∃ (v : Value) (ss : List (List UInt8)), e = .returned v ∧ ss = [] ∧
      w'.ownsRow (w.alloc (.cells #[.map none] 86)).heap.size 9 1 v ss.length ((ss.mergeSort (fun x y => decide (x ≤ y))).map encStr) ∧ (v = .slice none 0 0 ↔ ss = []) ∧ Below (w.alloc (.cells #[.map none] 86)).heap.size (w.alloc (.cells #[.map none] 86)) w' := by
  have hseq : SeqGives Fence.wide 2 Try.prog 70 #[.pointer (some ⟨w.heap.size, 0, none⟩)] encStr (fun ss : List (List UInt8) => ss = []) 0 (w.alloc (.cells #[.map none] 86)) :=
    AnyZ.keys_gives_nil (ρ := Try.keys47_ren) { Try.keys47 with } Fence.wide _ trivial rfl w.heap.size _ (by simp) (by simp)
  exact AnyZ.sorted_in Try.sorted46 Fence.wide 5 trivial trivial trivial trivial rfl (by omega) (Try.sorts46 _) (enters_of Try.func69 (by kernel_rfl) rfl) 70 #[.pointer (some ⟨w.heap.size, 0, none⟩)] trivial (enters_of Try.func70 (by kernel_rfl) rfl) _ 0 (Nat.zero_le _) (by omega) _ hseq
end Go.Proofs
