/- What the library's functions come to, told of data. -/
import Derived.Test.YtojkjedljhjleaaGreatDoorSym19
import Derived.Lib.SplitLaws
import Derived.Lib.ItoaNum
import Derived.Lib.IndexMore
import Derived.Lib.Join
namespace Go.Sy
open Go
def itoaB (n : Int) : ByteArray := ⟨(Lib.itoa n).toArray⟩
def fItoa (n : Int) : Option (ByteArray × Unit) :=
  cond (decide (-9223372036854775808 ≤ n) && decide (n ≤ 9223372036854775807)) (some (itoaB n, ())) none
def cutB (s p : ByteArray) : ByteArray × ByteArray × Bool :=
  (⟨(Lib.cut s.data.toList p.data.toList).1.toArray⟩, ⟨(Lib.cut s.data.toList p.data.toList).2.1.toArray⟩, (Lib.cut s.data.toList p.data.toList).2.2)
def fCut (s p : ByteArray) : Option (ByteArray × ByteArray × Bool × Unit) :=
  cond (ltN s.size 4294967281) (some ((cutB s p).1, (cutB s p).2.1, (cutB s p).2.2, ())) none
def splitL (s p : ByteArray) : List ByteArray := Lib.splitB p 0 (Lib.countB s p) s
def fSplit (s p : ByteArray) : Option (List ByteArray × Unit) :=
  cond (ltN s.size 4294967281 && Nat.ble 1 p.size) (some (splitL s p, ())) none
def joinB (xs : List ByteArray) (sep : ByteArray) : ByteArray := ⟨(Lib.join (xs.map (·.data.toList)) sep.data.toList).toArray⟩
def fJoin (xs : List ByteArray) (sep : ByteArray) : Option (ByteArray × Unit) :=
  cond (Nat.ble xs.length 140737488355328 && Nat.ble (joinB xs sep).size 140737488355328) (some (joinB xs sep, ())) none
end Go.Sy
