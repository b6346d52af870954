/- Rows of a payload, their tags, their fields, as data and as cells (no program in sight). -/
import Derived.Test.YtodgfapgmmjpcaaGreatDoorScanDef
namespace Go.Proofs.YtodgfapgmmjpcaaGreatDoor
set_option linter.unusedVariables false
set_option linter.unusedSimpArgs false
open Go.RowKit
structure MTag where
  name : ByteArray
  value : ByteArray
  off : Nat
  pos : Nat
deriving Inhabited
structure MField where
  name : ByteArray
  value : ByteArray
  off : Nat
  pos : Nat
  kind : Nat
deriving Inhabited
structure MRow where
  kind : Nat
  name : ByteArray
  off : Nat
  tags : List MTag
  fields : List MField
  text : ByteArray
  pos : Nat
  timed : Bool
  time : ByteArray
  when_ : Nat
deriving Inhabited
def tagCell (t : MTag) : List Value := [.string t.name, .string t.value, .int .i64 t.off, .int .i64 t.pos]
def fieldCell (f : MField) : List Value := [.string f.name, .string f.value, .int .i64 f.off, .int .i64 f.pos, .int .i64 f.kind]
/-- A row and where its tags, its fields lie. -/
structure VRow where
  row : MRow
  tA : Option Addr
  tc : Nat
  fA : Option Addr
  fc : Nat
def rowCell (x : VRow) : List Value := [.int .i64 x.row.kind, .string x.row.name, .int .i64 x.row.off, .slice x.tA x.row.tags.length x.tc, .slice x.fA x.row.fields.length x.fc, .string x.row.text, .int .i64 x.row.pos, .bool x.row.timed, .string x.row.time, .int .i64 x.row.when_]
theorem rowCell_len (x : VRow) : (rowCell x).length = 10 := rfl
end Go.Proofs.YtodgfapgmmjpcaaGreatDoor
