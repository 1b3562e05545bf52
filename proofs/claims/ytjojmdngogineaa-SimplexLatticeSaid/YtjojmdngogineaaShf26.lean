/-
  slices.SortFunc at vertices: the laying of its contract, in plain words (written by the kit's tool for it).
-/
import Derived.Shelf.SlSortCmp.WholeK
import Derived.Ground.SlsfProg
import Derived.Ground.NamesProg
import Derived.Test.YtjojmdngogineaaProg
namespace Go.Proofs
open Go.Shelf
def Try.sortV_ren : Go.Shelf.Ren := ⟨fun | 6 => 78 | 15 => 133 | 14 => 132 | 28 => 163 | 29 => 164 | 20 => 155 | 21 => 156 | 22 => 157 | 23 => 158 | 24 => 159 | 25 => 160 | 26 => 161 | 27 => 162 | 46 => 168 | 47 => 169 | 48 => 170 | 49 => 171 | 50 => 172 | 57 => 181 | n => n, fun | 22 => 22 | 24 => 56 | 25 => 98 | 3 => 3 | 39 => 145 | 0 => 0 | 53 => 169 | 55 => 171 | 4 => 4 | 46 => 163 | 45 => 162 | 50 => 126 | 5 => 5 | 9 => 9 | 66 => 174 | 70 => 178 | 76 => 185 | 77 => 32 | n => n, fun | n => n⟩
theorem Try.sortV : Go.Proofs.SlLaysF0.n6 Try.prog Try.sortV_ren := {
  mixed := by kernel_rfl
  f6 := ⟨Try.f78.name, by decide, Try.func78.trans (congrArg some (by kernel_rfl))⟩
  f14 := ⟨Try.f132.name, by decide, Try.func132.trans (congrArg some (by kernel_rfl))⟩
  f15 := Try.func133.trans (congrArg some (by kernel_rfl))
  f20 := ⟨Try.f155.name, by decide, Try.func155.trans (congrArg some (by kernel_rfl))⟩
  f21 := ⟨Try.f156.name, by decide, Try.func156.trans (congrArg some (by kernel_rfl))⟩
  f22 := ⟨Try.f157.name, by decide, Try.func157.trans (congrArg some (by kernel_rfl))⟩
  f23 := ⟨Try.f158.name, by decide, Try.func158.trans (congrArg some (by kernel_rfl))⟩
  f24 := ⟨Try.f159.name, by decide, Try.func159.trans (congrArg some (by kernel_rfl))⟩
  f25 := ⟨Try.f160.name, by decide, Try.func160.trans (congrArg some (by kernel_rfl))⟩
  f26 := ⟨Try.f161.name, by decide, Try.func161.trans (congrArg some (by kernel_rfl))⟩
  f27 := ⟨Try.f162.name, by decide, Try.func162.trans (congrArg some (by kernel_rfl))⟩
  f28 := Try.func163.trans (congrArg some (by kernel_rfl))
  f29 := Try.func164.trans (congrArg some (by kernel_rfl))
  f46 := ⟨Try.f168.name, by decide, Try.func168.trans (congrArg some (by kernel_rfl))⟩
  f47 := Try.func169.trans (congrArg some (by kernel_rfl))
  f48 := Try.func170.trans (congrArg some (by kernel_rfl))
  f49 := ⟨Try.f171.name, by decide, Try.func171.trans (congrArg some (by kernel_rfl))⟩
  f50 := ⟨Try.f172.name, by decide, Try.func172.trans (congrArg some (by kernel_rfl))⟩
  f57 := ⟨Try.f181.name, by decide, Try.func181.trans (congrArg some (by kernel_rfl))⟩
  t0 := Try.underlying0
  a0 := Try.isAgg0
  z0 := Try.sizeOf0
  v0 := Try.zeroValue0
  t3 := Try.underlying3
  a3 := Try.isAgg3
  z3 := Try.sizeOf3
  v3 := Try.zeroValue3
  t4 := Try.underlying4
  a4 := Try.isAgg4
  z4 := Try.sizeOf4
  v4 := Try.zeroValue4
  t5 := Try.underlying5
  a5 := Try.isAgg5
  z5 := Try.sizeOf5
  v5 := Try.zeroValue5
  t9 := Try.underlying9
  a9 := Try.isAgg9
  z9 := Try.sizeOf9
  v9 := Try.zeroValue9
  t22 := Try.underlying22
  a22 := Try.isAgg22
  z22 := Try.sizeOf22
  v22 := Try.zeroValue22
  t25 := Try.underlying98
  a25 := Try.isAgg98
  z25 := Try.sizeOf98
  v25 := Try.zeroValue98
  t39 := Try.underlying145
  a39 := Try.isAgg145
  z39 := Try.sizeOf145
  v39 := Try.zeroValue145
  t45 := Try.underlying162
  a45 := Try.isAgg162
  z45 := Try.sizeOf162
  v45 := Try.zeroValue162
  t46 := Try.underlying163
  a46 := Try.isAgg163
  z46 := Try.sizeOf163
  v46 := Try.zeroValue163
  t50 := Try.underlying126
  a50 := Try.isAgg126
  z50 := Try.sizeOf126
  v50 := Try.zeroValue126
  t53 := Try.underlying169
  a53 := Try.isAgg169
  z53 := Try.sizeOf169
  v53 := Try.zeroValue169
  t55 := Try.underlying171
  a55 := Try.isAgg171
  z55 := Try.sizeOf171
  v55 := Try.zeroValue171
  t66 := Try.underlying174
  a66 := Try.isAgg174
  z66 := Try.sizeOf174
  v66 := Try.zeroValue174
  t70 := Try.underlying178
  a70 := Try.isAgg178
  z70 := Try.sizeOf178
  v70 := Try.zeroValue178
  t76 := Try.underlying185
  a76 := Try.isAgg185
  z76 := Try.sizeOf185
  v76 := Try.zeroValue185
  t77 := Try.underlying32
  a77 := Try.isAgg32
  z77 := Try.sizeOf32
  v77 := Try.zeroValue32 }
end Go.Proofs
