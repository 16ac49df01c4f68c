/- The structs of the program, as Lean structures. -/
import Derived.Test.YtflmncjhonmmhaaDoorLib26
namespace Go.Proofs.YtflmncjhonmmhaaDoor.Vc
open Go
structure GboundsError where
  f_x : Int
  f_y : Int
  f_signed : Bool
  f_code : Int
deriving DecidableEq
def encGboundsError : Enc GboundsError := ⟨4, fun x => [.int .i64 x.f_x, .int .i64 x.f_y, .bool x.f_signed, .int .u8 x.f_code], fun _ => rfl, fun x u h => by
  simp only [List.mem_cons, List.not_mem_nil, or_false] at h
  rcases h with rfl | rfl | rfl | rfl <;> rfl⟩
def vGboundsError (x : GboundsError) : Value := .agg (encGboundsError.enc x).toArray
structure GerrorAddressString where
  f_msg : Str
  f_addr : Int
deriving DecidableEq
def encGerrorAddressString : Enc GerrorAddressString := ⟨2, fun x => [vS x.f_msg, .int .u64 x.f_addr], fun _ => rfl, fun x u h => by
  simp only [List.mem_cons, List.not_mem_nil, or_false] at h
  rcases h with rfl | rfl <;> rfl⟩
def vGerrorAddressString (x : GerrorAddressString) : Value := .agg (encGerrorAddressString.enc x).toArray
structure GPoint where
  X : Int
  Y : Int
deriving DecidableEq
def encGPoint : Enc GPoint := ⟨2, fun x => [.int .i64 x.X, .int .i64 x.Y], fun _ => rfl, fun x u h => by
  simp only [List.mem_cons, List.not_mem_nil, or_false] at h
  rcases h with rfl | rfl <;> rfl⟩
def vGPoint (x : GPoint) : Value := .agg (encGPoint.enc x).toArray
structure GMover where
  At : GPoint
  Speed : GPoint
  Push : GPoint
  Facing : Int
  Health : Int
  Energy : Int
  Shield : Bool
  Cool : Int
  Out : Int
  Said : Int
deriving DecidableEq
def encGMover : Enc GMover := ⟨13, fun x => [.int .i64 x.At.X, .int .i64 x.At.Y, .int .i64 x.Speed.X, .int .i64 x.Speed.Y, .int .i64 x.Push.X, .int .i64 x.Push.Y, .int .i64 x.Facing, .int .i64 x.Health, .int .i64 x.Energy, .bool x.Shield, .int .i64 x.Cool, .int .i64 x.Out, .int .i64 x.Said], fun _ => rfl, fun x u h => by
  simp only [List.mem_cons, List.not_mem_nil, or_false] at h
  rcases h with rfl | rfl | rfl | rfl | rfl | rfl | rfl | rfl | rfl | rfl | rfl | rfl | rfl <;> rfl⟩
def vGMover (x : GMover) : Value := .agg (encGMover.enc x).toArray
structure GScore where
  Points : Int
  Hits : Int
  Outs : Int
  Streak : Int
deriving DecidableEq
def encGScore : Enc GScore := ⟨4, fun x => [.int .i64 x.Points, .int .i64 x.Hits, .int .i64 x.Outs, .int .i64 x.Streak], fun _ => rfl, fun x u h => by
  simp only [List.mem_cons, List.not_mem_nil, or_false] at h
  rcases h with rfl | rfl | rfl | rfl <;> rfl⟩
def vGScore (x : GScore) : Value := .agg (encGScore.enc x).toArray
structure GShot where
  No : Int
  Owner : Int
  Power : Int
  At : GPoint
  Speed : GPoint
  Left : Int
deriving DecidableEq
def encGShot : Enc GShot := ⟨8, fun x => [.int .i64 x.No, .int .i64 x.Owner, .int .i64 x.Power, .int .i64 x.At.X, .int .i64 x.At.Y, .int .i64 x.Speed.X, .int .i64 x.Speed.Y, .int .i64 x.Left], fun _ => rfl, fun x u h => by
  simp only [List.mem_cons, List.not_mem_nil, or_false] at h
  rcases h with rfl | rfl | rfl | rfl | rfl | rfl | rfl | rfl <;> rfl⟩
def vGShot (x : GShot) : Value := .agg (encGShot.enc x).toArray
structure GPickup where
  No : Int
  Spot : Int
  Kind : Int
deriving DecidableEq
def encGPickup : Enc GPickup := ⟨3, fun x => [.int .i64 x.No, .int .i64 x.Spot, .int .i64 x.Kind], fun _ => rfl, fun x u h => by
  simp only [List.mem_cons, List.not_mem_nil, or_false] at h
  rcases h with rfl | rfl | rfl <;> rfl⟩
def vGPickup (x : GPickup) : Value := .agg (encGPickup.enc x).toArray
structure GWorld where
  Frame : Int
  Movers : List GMover
  Scores : List GScore
  Shots : List GShot
  Pickups : List GPickup
  NextNo : Int
deriving DecidableEq
structure GCorrection where
  Peer : Int
  Before : GPoint
  After : GPoint
  Health : Int
  Points : Int
deriving DecidableEq
def encGCorrection : Enc GCorrection := ⟨7, fun x => [.int .i64 x.Peer, .int .i64 x.Before.X, .int .i64 x.Before.Y, .int .i64 x.After.X, .int .i64 x.After.Y, .int .i64 x.Health, .int .i64 x.Points], fun _ => rfl, fun x u h => by
  simp only [List.mem_cons, List.not_mem_nil, or_false] at h
  rcases h with rfl | rfl | rfl | rfl | rfl | rfl | rfl <;> rfl⟩
def vGCorrection (x : GCorrection) : Value := .agg (encGCorrection.enc x).toArray
structure GCounters where
  Ticks : Int
  Stalls : Int
  Steps : Int
  Copies : Int
  Late : Int
  Sent : Int
  Got : Int
  Refused : Int
  Accepted : Int
deriving DecidableEq
def encGCounters : Enc GCounters := ⟨9, fun x => [.int .i64 x.Ticks, .int .i64 x.Stalls, .int .i64 x.Steps, .int .i64 x.Copies, .int .i64 x.Late, .int .i64 x.Sent, .int .i64 x.Got, .int .i64 x.Refused, .int .i64 x.Accepted], fun _ => rfl, fun x u h => by
  simp only [List.mem_cons, List.not_mem_nil, or_false] at h
  rcases h with rfl | rfl | rfl | rfl | rfl | rfl | rfl | rfl | rfl <;> rfl⟩
def vGCounters (x : GCounters) : Value := .agg (encGCounters.enc x).toArray
structure GPiece where
  Bytes : List Int
  Copy : Bool
deriving DecidableEq
structure GOrder where
  Verb : Int
  A : Int
  B : Int
  C : Int
deriving DecidableEq
def encGOrder : Enc GOrder := ⟨4, fun x => [.int .i64 x.Verb, .int .i64 x.A, .int .i64 x.B, .int .i64 x.C], fun _ => rfl, fun x u h => by
  simp only [List.mem_cons, List.not_mem_nil, or_false] at h
  rcases h with rfl | rfl | rfl | rfl <;> rfl⟩
def vGOrder (x : GOrder) : Value := .agg (encGOrder.enc x).toArray
structure GOperand where
  Name : Str
  Least : Int
  Most : Int
deriving DecidableEq
def encGOperand : Enc GOperand := ⟨3, fun x => [vS x.Name, .int .i64 x.Least, .int .i64 x.Most], fun _ => rfl, fun x u h => by
  simp only [List.mem_cons, List.not_mem_nil, or_false] at h
  rcases h with rfl | rfl | rfl <;> rfl⟩
def vGOperand (x : GOperand) : Value := .agg (encGOperand.enc x).toArray
structure GNote where
  Kind : Int
  A : Int
  B : Int
deriving DecidableEq
def encGNote : Enc GNote := ⟨3, fun x => [.int .i64 x.Kind, .int .i64 x.A, .int .i64 x.B], fun _ => rfl, fun x u h => by
  simp only [List.mem_cons, List.not_mem_nil, or_false] at h
  rcases h with rfl | rfl | rfl <;> rfl⟩
def vGNote (x : GNote) : Value := .agg (encGNote.enc x).toArray
structure GSum where
  f_h : Int
  f_many : Int
deriving DecidableEq
def encGSum : Enc GSum := ⟨2, fun x => [.int .u64 x.f_h, .int .u64 x.f_many], fun _ => rfl, fun x u h => by
  simp only [List.mem_cons, List.not_mem_nil, or_false] at h
  rcases h with rfl | rfl <;> rfl⟩
def vGSum (x : GSum) : Value := .agg (encGSum.enc x).toArray
structure Gspec where
  f_name : Str
  f_operands : List GOperand
deriving DecidableEq
structure GerrorString where
  f_s : Str
deriving DecidableEq
def encGerrorString : Enc GerrorString := ⟨1, fun x => [vS x.f_s], fun _ => rfl, fun x u h => by
  simp only [List.mem_cons, List.not_mem_nil, or_false] at h
  rcases h with rfl <;> rfl⟩
def vGerrorString (x : GerrorString) : Value := .agg (encGerrorString.enc x).toArray
structure GacceptRange where
  f_lo : Int
  f_hi : Int
deriving DecidableEq
def encGacceptRange : Enc GacceptRange := ⟨2, fun x => [.int .u8 x.f_lo, .int .u8 x.f_hi], fun _ => rfl, fun x u h => by
  simp only [List.mem_cons, List.not_mem_nil, or_false] at h
  rcases h with rfl | rfl <;> rfl⟩
def vGacceptRange (x : GacceptRange) : Value := .agg (encGacceptRange.enc x).toArray
end Go.Proofs.YtflmncjhonmmhaaDoor.Vc
