/- Contracts of strings.Builder.Len and strings.Repeat at this program, written by the kit's lay-plain.mjs. -/
import Derived.Shelf.Strings.Builder1
import Derived.Shelf.Strings.Builder2
import Derived.Shelf.Strings.BuilderF
import Derived.Shelf.Strings.Prefix
import Derived.Shelf.Bits.Mul64
import Derived.Shelf.Strings.Repeat
import Derived.Test.YtfjpglohcppjeaaDoorShelf
namespace Go.Proofs
open Go.Shelf
open Go.RowKit in
theorem Tryd.Builder_Len_f (B b : Nat) (bs : List Value) (w : World) (h : Lib.IsBuilderF 143 5 B b bs w) :
    Calls Tryd.prog 91 #[.pointer (some ⟨b, 0, none⟩)] w fun e w' => e = .returned (.int .i64 bs.length) ∧ w' = w := Any.Builder_Len_f Tryd.lays170 B b bs w h
def Tryd.lays105_ren : Go.Shelf.Ren := ⟨fun | 105 => 90 | 212 => 122 | 99 => 123 | 165 => 106 | 166 => 89 | 170 => 91 | 169 => 93 | 263 => 131 | 264 => 132 | 206 => 133 | 240 => 121 | 241 => 127 | 276 => 130 | 277 => 134 | n => n, fun | 9 => 9 | 3 => 3 | 4 => 4 | 20 => 20 | 0 => 0 | 46 => 156 | 109 => 172 | 5 => 5 | 72 => 143 | 76 => 146 | 51 => 150 | 146 => 181 | 53 => 164 | 148 => 183 | 70 => 141 | 37 => 42 | 75 => 145 | 127 => 176 | 164 => 179 | 80 => 107 | n => n, fun | n => n⟩
theorem Tryd.lays105 : Go.Proofs.Lays.n105 Tryd.prog Tryd.lays105_ren := {
  mixed := by kernel_rfl
  f99 := Tryd.func123.trans (congrArg some (by kernel_rfl))
  f105 := Tryd.func90.trans (congrArg some (by kernel_rfl))
  f165 := Tryd.func106.trans (congrArg some (by kernel_rfl))
  f166 := Tryd.func89.trans (congrArg some (by kernel_rfl))
  f169 := Tryd.func93.trans (congrArg some (by kernel_rfl))
  f170 := Tryd.func91.trans (congrArg some (by kernel_rfl))
  f206 := Tryd.func133.trans (congrArg some (by kernel_rfl))
  f212 := Tryd.func122.trans (congrArg some (by kernel_rfl))
  f240 := Tryd.func121.trans (congrArg some (by kernel_rfl))
  f241 := Tryd.func127.trans (congrArg some (by kernel_rfl))
  f263 := Tryd.func131.trans (congrArg some (by kernel_rfl))
  f264 := Tryd.func132.trans (congrArg some (by kernel_rfl))
  f276 := Tryd.func130.trans (congrArg some (by kernel_rfl))
  f277 := Tryd.func134.trans (congrArg some (by kernel_rfl))
  t0 := Tryd.underlying0
  a0 := Tryd.isAgg0
  z0 := Tryd.sizeOf0
  v0 := Tryd.zeroValue0
  t3 := Tryd.underlying3
  a3 := Tryd.isAgg3
  z3 := Tryd.sizeOf3
  v3 := Tryd.zeroValue3
  t4 := Tryd.underlying4
  a4 := Tryd.isAgg4
  z4 := Tryd.sizeOf4
  v4 := Tryd.zeroValue4
  t5 := Tryd.underlying5
  a5 := Tryd.isAgg5
  z5 := Tryd.sizeOf5
  v5 := Tryd.zeroValue5
  t9 := Tryd.underlying9
  a9 := Tryd.isAgg9
  z9 := Tryd.sizeOf9
  v9 := Tryd.zeroValue9
  t20 := Tryd.underlying20
  a20 := Tryd.isAgg20
  z20 := Tryd.sizeOf20
  v20 := Tryd.zeroValue20
  t37 := Tryd.underlying42
  a37 := Tryd.isAgg42
  z37 := Tryd.sizeOf42
  v37 := Tryd.zeroValue42
  t46 := Tryd.underlying156
  a46 := Tryd.isAgg156
  z46 := Tryd.sizeOf156
  v46 := Tryd.zeroValue156
  t51 := Tryd.underlying150
  a51 := Tryd.isAgg150
  z51 := Tryd.sizeOf150
  v51 := Tryd.zeroValue150
  t53 := Tryd.underlying164
  a53 := Tryd.isAgg164
  z53 := Tryd.sizeOf164
  v53 := Tryd.zeroValue164
  t70 := Tryd.underlying141
  a70 := Tryd.isAgg141
  z70 := Tryd.sizeOf141
  v70 := Tryd.zeroValue141
  t72 := Tryd.underlying143
  a72 := Tryd.isAgg143
  z72 := Tryd.sizeOf143
  v72 := Tryd.zeroValue143
  t75 := Tryd.underlying145
  a75 := Tryd.isAgg145
  z75 := Tryd.sizeOf145
  v75 := Tryd.zeroValue145
  t76 := Tryd.underlying146
  a76 := Tryd.isAgg146
  z76 := Tryd.sizeOf146
  v76 := Tryd.zeroValue146
  t109 := Tryd.underlying172
  a109 := Tryd.isAgg172
  z109 := Tryd.sizeOf172
  v109 := Tryd.zeroValue172
  t127 := Tryd.underlying176
  a127 := Tryd.isAgg176
  z127 := Tryd.sizeOf176
  v127 := Tryd.zeroValue176
  t146 := Tryd.underlying181
  a146 := Tryd.isAgg181
  z146 := Tryd.sizeOf181
  v146 := Tryd.zeroValue181
  t148 := Tryd.underlying183
  a148 := Tryd.isAgg183
  z148 := Tryd.sizeOf183
  v148 := Tryd.zeroValue183
  t164 := Tryd.underlying179
  a164 := Tryd.isAgg179
  z164 := Tryd.sizeOf179
  v164 := Tryd.zeroValue179 }
theorem Tryd.Builder_Extra_105 : Builder.Extra Tryd.prog Tryd.lays105_ren := {
  sizeBuilder := by kernel_rfl
  liesBuilder := by kernel_rfl
  t5 := Tryd.underlying5
  a5 := Tryd.isAgg5
  z5 := Tryd.sizeOf5
  v5 := Tryd.zeroValue5
  infoByte := by kernel_rfl
  cellsByte := by kernel_rfl
  sizeByte := by kernel_rfl
  neB5 := by decide }
open Go.RowKit Go.Lib in
theorem Tryd.strings_Repeat (s : ByteArray) (c : Nat) (w : World) (hc : c ≤ 9223372036854775807) (hlen : s.size * c ≤ 140737488355328) :
    Calls Tryd.prog 90 #[.string s, .int .i64 c] w fun e w' => e = .returned (.string ⟨(Lib.repeatL s.data.toList c).toArray⟩) ∧ Below w.heap.size w w' := Any.strings_Repeat Tryd.lays105 Tryd.Builder_Extra_105 s c w hc hlen
end Go.Proofs
