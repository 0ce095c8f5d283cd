/- The functions' code in the small language. Printed by program (wip/tools). -/
import Derived.Test.YtipjjcaflcpplaaWalk2
import Derived.Test.YtipjjcaflcpplaaProg
import Derived.KernelRfl
namespace Go.Proofs.Ytipjjcaflcpplaa
open Go.RowKit
def hh : Nat → Nat → Option Md := fun fn slot => if (fn, slot) ∈ [(30, 3)] then some .gr else none

def c3l0 : AC :=
  .seq (.seq (.reg [⟨(some 53), .mv (.t 7), none⟩,
          ⟨(some 54), .mv (.t 4), none⟩,
          ⟨(some 55), .len true (.t 54), none⟩,
          ⟨(some 56), .bin .lss (.t 53) (.t 55), none⟩])
      (.cond (.t 56) (.skip) (.exit 2)))
     (.seq (.block 3 (.seq (.reg [⟨(some 59), .mv (.t 4), none⟩,
           ⟨(some 60), .mv (.t 7), none⟩,
           ⟨(some 61), .ix (.t 59) (.t 60), none⟩,
           ⟨(some 62), .bin .geq (.t 61) (.c (.d (.v (.int .u8 128)))), none⟩,
           ⟨(some 63), .mv (.t 7), none⟩,
           ⟨(some 64), .bin .add (.t 63) (.c (.d (.v (.int .i64 1)))), none⟩,
           ⟨(some 65), .mv (.t 4), none⟩,
           ⟨(some 66), .len true (.t 65), none⟩,
           ⟨(some 67), .bin .lss (.t 64) (.t 66), none⟩,
           ⟨(some 68), .eqs true (.t 62) (.t 67), none⟩])
       (.cond (.t 68) (.seq (.reg [⟨(some 2), .mv (.c (.d (.v (.bool false)))), none⟩])
        (.ret)) (.skip))))
     (.reg [⟨(some 57), .mv (.t 7), none⟩,
        ⟨(some 58), .bin .add (.t 57) (.c (.d (.v (.int .i64 1)))), none⟩,
        ⟨(some 7), .mv (.t 58), none⟩]))

def c3l1 : AC :=
  .seq (.seq (.reg [⟨(some 33), .mv (.t 6), none⟩,
          ⟨(some 34), .bin .lss (.t 33) (.c (.d (.v (.int .i64 5)))), none⟩,
          ⟨(some 35), .mv (.t 34), none⟩,
          ⟨(some 36), .mv (.t 0), (some (35, true))⟩,
          ⟨(some 37), .mv (.t 6), (some (35, true))⟩,
          ⟨(some 38), .bin .mul (.c (.d (.v (.int .i64 7)))) (.t 37), (some (35, true))⟩,
          ⟨(some 39), .bin .sub (.t 38) (.c (.d (.v (.int .i64 1)))), (some (35, true))⟩,
          ⟨(some 40), .bin .shl (.c (.d (.v (.int .i64 (-1))))) (.t 39), (some (35, true))⟩,
          ⟨(some 41), .bin .lss (.t 36) (.t 40), (some (35, true))⟩,
          ⟨(some 42), .mv (.t 41), (some (35, true))⟩,
          ⟨(some 43), .mv (.t 0), (some (42, false))⟩,
          ⟨(some 44), .mv (.t 6), (some (42, false))⟩,
          ⟨(some 45), .bin .mul (.c (.d (.v (.int .i64 7)))) (.t 44), (some (42, false))⟩,
          ⟨(some 46), .bin .sub (.t 45) (.c (.d (.v (.int .i64 1)))), (some (42, false))⟩,
          ⟨(some 47), .bin .shl (.c (.d (.v (.int .i64 1)))) (.t 46), (some (42, false))⟩,
          ⟨(some 48), .bin .geq (.t 43) (.t 47), (some (42, false))⟩,
          ⟨(some 49), .pick (.t 42) (.c (.d (.v (.bool true)))) (.t 48), (some (35, true))⟩,
          ⟨(some 50), .pick (.t 35) (.t 49) (.c (.d (.v (.bool false)))), none⟩])
      (.cond (.t 50) (.skip) (.exit 0)))
     (.block 1 (.reg [⟨(some 51), .mv (.t 6), none⟩,
         ⟨(some 52), .bin .add (.t 51) (.c (.d (.v (.int .i64 1)))), none⟩,
         ⟨(some 6), .mv (.t 52), none⟩]))

/-- spinet/spinetlaw08.RiderNums -/
def c3 : AC :=
  .seq (.reg [⟨(some 2), .mv (.c (.d (.v (.bool false)))), none⟩])
  (.seq (.reg [⟨(some 9), .call 8 [], none⟩,
      ⟨(some 3), .mv (.t 9), none⟩])
  (.seq (.reg [⟨(some 10), .mv (.t 3), none⟩,
      ⟨(some 11), .mv (.t 0), none⟩,
      ⟨(some 12), .call 9 [(.t 10), (.t 11)], none⟩])
  (.seq (.reg [⟨(some 14), .mv (.t 3), none⟩,
      ⟨(some 15), .call 10 [(.t 14)], none⟩,
      ⟨(some 13), .mv (.t 15), none⟩,
      ⟨(some 16), .ext (.t 13) 0, none⟩,
      ⟨(some 17), .ext (.t 13) 1, none⟩,
      ⟨(some 4), .mv (.t 16), none⟩,
      ⟨(some 5), .mv (.t 17), none⟩])
  (.seq (.seq (.reg [⟨(some 18), .mv (.t 0), none⟩,
       ⟨(some 19), .bin .lss (.t 18) (.c (.d (.v (.int .i64 (-2147483648))))), none⟩,
       ⟨(some 20), .mv (.t 19), none⟩,
       ⟨(some 21), .mv (.t 0), (some (20, false))⟩,
       ⟨(some 22), .bin .geq (.t 21) (.c (.d (.v (.int .i64 2147483648)))), (some (20, false))⟩,
       ⟨(some 23), .pick (.t 20) (.c (.d (.v (.bool true)))) (.t 22), none⟩])
   (.cond (.t 23) (.seq (.reg [⟨(some 24), .mv (.t 5), none⟩,
        ⟨(some 25), .bin .eql (.t 24) (.c (.d (.v (.int .i64 1)))), none⟩,
        ⟨(some 26), .mv (.t 25), none⟩,
        ⟨(some 27), .mv (.t 4), (some (26, true))⟩,
        ⟨(some 28), .bin .eql (.t 27) (.c (.d (.v (.string ⟨#[]⟩)))), (some (26, true))⟩,
        ⟨(some 29), .pick (.t 26) (.t 28) (.c (.d (.v (.bool false)))), none⟩,
        ⟨(some 30), .mv (.t 29), none⟩,
        ⟨(some 31), .call 11 [], (some (30, true))⟩,
        ⟨(some 32), .pick (.t 30) (.t 31) (.c (.d (.v (.bool false)))), none⟩,
        ⟨(some 2), .mv (.t 32), none⟩])
    (.ret)) (.skip)))
  (.seq (.reg [⟨(some 6), .mv (.c (.d (.v (.int .i64 1)))), none⟩])
  (.seq (.block 0 (.loop c3l1))
  (.seq (.seq (.reg [⟨(some 7), .mv (.c (.d (.v (.int .i64 0)))), none⟩])
   (.block 2 (.loop c3l0)))
  (.seq (.reg [⟨(some 69), .mv (.t 4), none⟩,
      ⟨(some 70), .bin .add (.t 69) (.c (.d (.v (.string ⟨#[128]⟩)))), none⟩,
      ⟨(some 71), .call 12 [(.t 70)], none⟩,
      ⟨(some 8), .mv (.t 71), none⟩])
  (.seq (.reg [⟨(some 72), .mv (.t 5), none⟩,
      ⟨(some 73), .bin .eql (.t 72) (.c (.d (.v (.int .i64 0)))), none⟩,
      ⟨(some 74), .mv (.t 73), none⟩,
      ⟨(some 75), .mv (.t 4), (some (74, true))⟩,
      ⟨(some 76), .len true (.t 75), (some (74, true))⟩,
      ⟨(some 77), .mv (.t 6), (some (74, true))⟩,
      ⟨(some 78), .bin .eql (.t 76) (.t 77), (some (74, true))⟩,
      ⟨(some 79), .pick (.t 74) (.t 78) (.c (.d (.v (.bool false)))), none⟩,
      ⟨(some 80), .mv (.t 79), none⟩,
      ⟨(some 81), .mv (.t 8), (some (80, true))⟩,
      ⟨(some 82), .call 13 [(.t 81)], (some (80, true))⟩,
      ⟨(some 83), .mv (.t 0), (some (80, true))⟩,
      ⟨(some 84), .bin .eql (.t 82) (.t 83), (some (80, true))⟩,
      ⟨(some 85), .pick (.t 80) (.t 84) (.c (.d (.v (.bool false)))), none⟩,
      ⟨(some 86), .mv (.t 85), none⟩,
      ⟨(some 87), .mv (.t 8), (some (86, true))⟩,
      ⟨(some 88), .call 14 [(.t 87)], (some (86, true))⟩,
      ⟨(some 89), .mv (.t 6), (some (86, true))⟩,
      ⟨(some 90), .bin .eql (.t 88) (.t 89), (some (86, true))⟩,
      ⟨(some 91), .pick (.t 86) (.t 90) (.c (.d (.v (.bool false)))), none⟩,
      ⟨(some 92), .mv (.t 91), none⟩,
      ⟨(some 93), .mv (.t 8), (some (92, true))⟩,
      ⟨(some 94), .call 13 [(.t 93)], (some (92, true))⟩,
      ⟨(some 95), .bin .eql (.t 94) (.c (.d (.v (.int .i64 0)))), (some (92, true))⟩,
      ⟨(some 96), .pick (.t 92) (.t 95) (.c (.d (.v (.bool false)))), none⟩,
      ⟨(some 97), .mv (.t 96), none⟩,
      ⟨(some 98), .mv (.t 8), (some (97, true))⟩,
      ⟨(some 99), .call 15 [(.t 98)], (some (97, true))⟩,
      ⟨(some 100), .pick (.t 97) (.t 99) (.c (.d (.v (.bool false)))), none⟩,
      ⟨(some 101), .mv (.t 100), none⟩,
      ⟨(some 102), .mv (.t 8), (some (101, true))⟩,
      ⟨(some 103), .call 14 [(.t 102)], (some (101, true))⟩,
      ⟨(some 104), .mv (.t 6), (some (101, true))⟩,
      ⟨(some 105), .bin .eql (.t 103) (.t 104), (some (101, true))⟩,
      ⟨(some 106), .pick (.t 101) (.t 105) (.c (.d (.v (.bool false)))), none⟩,
      ⟨(some 107), .mv (.t 106), none⟩,
      ⟨(some 108), .call 11 [], (some (107, true))⟩,
      ⟨(some 109), .pick (.t 107) (.t 108) (.c (.d (.v (.bool false)))), none⟩,
      ⟨(some 2), .mv (.t 109), none⟩])
  (.ret))))))))))
def r3 : List RC := [.t 2]

def c4l0 : AC :=
  .seq (.seq (.reg [⟨(some 15), .mv (.t 5), none⟩,
          ⟨(some 16), .mv (.t 0), none⟩,
          ⟨(some 17), .len false (.t 16), none⟩,
          ⟨(some 18), .bin .lss (.t 15) (.t 17), none⟩,
          ⟨(some 19), .mv (.t 18), none⟩,
          ⟨(some 20), .mv (.t 5), (some (19, true))⟩,
          ⟨(some 21), .bin .lss (.t 20) (.c (.d (.v (.int .i64 200)))), (some (19, true))⟩,
          ⟨(some 22), .pick (.t 19) (.t 21) (.c (.d (.v (.bool false)))), none⟩])
      (.cond (.t 22) (.skip) (.exit 0)))
     (.seq (.block 1 (.seq (.seq (.reg [⟨(some 25), .mv (.t 0), none⟩,
            ⟨(some 26), .mv (.t 5), none⟩,
            ⟨(some 27), .ia (.t 25) (.t 26) 3, none⟩,
            ⟨(some 28), .fa (.t 27) 2, none⟩,
            ⟨(some 29), .ld (.t 28) 1 false, none⟩,
            ⟨(some 30), .len true (.t 29), none⟩,
            ⟨(some 31), .bin .gtr (.t 30) (.c (.d (.v (.int .i64 200000)))), none⟩])
        (.cond (.t 31) (.seq (.reg [⟨(some 32), .call 11 [], none⟩,
             ⟨(some 2), .mv (.t 32), none⟩])
         (.ret)) (.skip)))
       (.reg [⟨(some 33), .mv (.t 3), none⟩,
          ⟨(some 34), .mv (.t 4), none⟩,
          ⟨(some 35), .mv (.t 0), none⟩,
          ⟨(some 36), .mv (.t 5), none⟩,
          ⟨(some 37), .ia (.t 35) (.t 36) 3, none⟩,
          ⟨(some 38), .ld (.t 37) 3 true, none⟩,
          ⟨(some 39), .call 16 [(.t 33), (.t 34), (.t 38)], none⟩])))
     (.reg [⟨(some 23), .mv (.t 5), none⟩,
        ⟨(some 24), .bin .add (.t 23) (.c (.d (.v (.int .i64 1)))), none⟩,
        ⟨(some 5), .mv (.t 24), none⟩]))

/-- spinet/spinetlaw08.RiderWrites -/
def c4 : AC :=
  .seq (.reg [⟨(some 2), .mv (.c (.d (.v (.bool false)))), none⟩])
  (.seq (.reg [⟨(some 10), .call 8 [], none⟩,
      ⟨(some 11), .bd [.esl, (.d (.v (.bool false)))] [], none⟩,
      ⟨(some 12), .bx (.t 11), none⟩,
      ⟨(some 3), .mv (.t 10), none⟩,
      ⟨(some 4), .mv (.t 12), none⟩])
  (.seq (.seq (.reg [⟨(some 13), .mv (.t 3), none⟩,
       ⟨(some 14), .eqp false (.t 13) (.c .nilp), none⟩])
   (.cond (.t 14) (.seq (.reg [⟨(some 2), .mv (.c (.d (.v (.bool false)))), none⟩])
    (.ret)) (.skip)))
  (.seq (.seq (.reg [⟨(some 5), .mv (.c (.d (.v (.int .i64 0)))), none⟩])
   (.block 0 (.loop c4l0)))
  (.seq (.reg [⟨(some 41), .mv (.t 3), none⟩,
      ⟨(some 42), .call 10 [(.t 41)], none⟩,
      ⟨(some 40), .mv (.t 42), none⟩,
      ⟨(some 43), .ext (.t 40) 0, none⟩,
      ⟨(some 44), .ext (.t 40) 1, none⟩,
      ⟨(some 6), .mv (.t 43), none⟩,
      ⟨(some 7), .mv (.t 44), none⟩])
  (.seq (.reg [⟨(some 46), .mv (.t 4), none⟩,
      ⟨(some 47), .call 17 [(.t 46)], none⟩,
      ⟨(some 45), .mv (.t 47), none⟩,
      ⟨(some 48), .ext (.t 45) 0, none⟩,
      ⟨(some 49), .ext (.t 45) 1, none⟩,
      ⟨(some 8), .mv (.t 48), none⟩,
      ⟨(some 9), .mv (.t 49), none⟩])
  (.seq (.reg [⟨(some 50), .mv (.t 6), none⟩,
      ⟨(some 51), .mv (.t 8), none⟩,
      ⟨(some 52), .bin .eql (.t 50) (.t 51), none⟩,
      ⟨(some 53), .mv (.t 52), none⟩,
      ⟨(some 54), .mv (.t 7), (some (53, true))⟩,
      ⟨(some 55), .mv (.t 9), (some (53, true))⟩,
      ⟨(some 56), .bin .eql (.t 54) (.t 55), (some (53, true))⟩,
      ⟨(some 57), .pick (.t 53) (.t 56) (.c (.d (.v (.bool false)))), none⟩,
      ⟨(some 58), .mv (.t 57), none⟩,
      ⟨(some 59), .call 11 [], (some (58, true))⟩,
      ⟨(some 60), .pick (.t 58) (.t 59) (.c (.d (.v (.bool false)))), none⟩,
      ⟨(some 2), .mv (.t 60), none⟩])
  (.ret)))))))
def r4 : List RC := [.t 2]

def c5l0 : AC :=
  .seq (.seq (.reg [⟨(some 19), .mv (.t 7), none⟩,
          ⟨(some 20), .mv (.t 1), none⟩,
          ⟨(some 21), .len false (.t 20), none⟩,
          ⟨(some 22), .bin .lss (.t 19) (.t 21), none⟩,
          ⟨(some 23), .mv (.t 22), none⟩,
          ⟨(some 24), .mv (.t 7), (some (23, true))⟩,
          ⟨(some 25), .bin .lss (.t 24) (.c (.d (.v (.int .i64 200)))), (some (23, true))⟩,
          ⟨(some 26), .pick (.t 23) (.t 25) (.c (.d (.v (.bool false)))), none⟩])
      (.cond (.t 26) (.skip) (.exit 0)))
     (.seq (.block 1 (.seq (.reg [⟨(some 29), .mv (.t 5), none⟩,
           ⟨(some 30), .mv (.t 6), none⟩,
           ⟨(some 31), .mv (.t 1), none⟩,
           ⟨(some 32), .mv (.t 7), none⟩,
           ⟨(some 33), .ia (.t 31) (.t 32) 3, none⟩,
           ⟨(some 34), .ld (.t 33) 3 true, none⟩,
           ⟨(some 35), .call 18 [(.t 29), (.t 30), (.t 34)], none⟩,
           ⟨(some 36), .un .not (.t 35), none⟩])
       (.cond (.t 36) (.seq (.reg [⟨(some 4), .mv (.c (.d (.v (.bool false)))), none⟩])
        (.ret)) (.skip))))
     (.reg [⟨(some 27), .mv (.t 7), none⟩,
        ⟨(some 28), .bin .add (.t 27) (.c (.d (.v (.int .i64 1)))), none⟩,
        ⟨(some 7), .mv (.t 28), none⟩]))

/-- spinet/spinetlaw08.RiderReads -/
def c5 : AC :=
  .seq (.reg [⟨(some 4), .mv (.c (.d (.v (.bool false)))), none⟩])
  (.seq (.seq (.reg [⟨(some 8), .mv (.t 0), none⟩,
       ⟨(some 9), .len true (.t 8), none⟩,
       ⟨(some 10), .bin .gtr (.t 9) (.c (.d (.v (.int .i64 200000)))), none⟩])
   (.cond (.t 10) (.seq (.reg [⟨(some 11), .call 11 [], none⟩,
        ⟨(some 4), .mv (.t 11), none⟩])
    (.ret)) (.skip)))
  (.seq (.reg [⟨(some 12), .mv (.t 0), none⟩,
      ⟨(some 13), .call 12 [(.t 12)], none⟩,
      ⟨(some 14), .mv (.t 0), none⟩,
      ⟨(some 15), .bd [(.d (.v (.string ⟨#[]⟩))), (.d (.v (.int .i64 0))), (.d (.v (.bool false)))] [(0, 1, (.t 14))], none⟩,
      ⟨(some 16), .bx (.t 15), none⟩,
      ⟨(some 5), .mv (.t 13), none⟩,
      ⟨(some 6), .mv (.t 16), none⟩])
  (.seq (.seq (.reg [⟨(some 17), .mv (.t 5), none⟩,
       ⟨(some 18), .eqp false (.t 17) (.c .nilp), none⟩])
   (.cond (.t 18) (.seq (.reg [⟨(some 4), .mv (.c (.d (.v (.bool false)))), none⟩])
    (.ret)) (.skip)))
  (.seq (.seq (.reg [⟨(some 7), .mv (.c (.d (.v (.int .i64 0)))), none⟩])
   (.block 0 (.loop c5l0)))
  (.seq (.reg [⟨(some 37), .call 11 [], none⟩,
      ⟨(some 4), .mv (.t 37), none⟩])
  (.ret))))))
def r5 : List RC := [.t 4]

/-- spinet/spinetlaw08.RiderEnds -/
def c6 : AC :=
  .seq (.reg [⟨(some 4), .mv (.c (.d (.v (.bool false)))), none⟩])
  (.seq (.seq (.reg [⟨(some 7), .mv (.t 0), none⟩,
       ⟨(some 8), .len true (.t 7), none⟩,
       ⟨(some 9), .bin .gtr (.t 8) (.c (.d (.v (.int .i64 200000)))), none⟩])
   (.cond (.t 9) (.seq (.reg [⟨(some 10), .call 11 [], none⟩,
        ⟨(some 4), .mv (.t 10), none⟩])
    (.ret)) (.skip)))
  (.seq (.reg [⟨(some 11), .mv (.t 0), none⟩,
      ⟨(some 12), .call 12 [(.t 11)], none⟩,
      ⟨(some 5), .mv (.t 12), none⟩])
  (.seq (.reg [⟨(some 13), .mv (.t 5), none⟩,
      ⟨(some 14), .mv (.t 1), none⟩,
      ⟨(some 15), .call 19 [(.t 13), (.t 14)], none⟩,
      ⟨(some 6), .mv (.t 15), none⟩])
  (.seq (.seq (.reg [⟨(some 16), .mv (.t 1), none⟩,
       ⟨(some 17), .bin .lss (.t 16) (.c (.d (.v (.int .i64 0)))), none⟩,
       ⟨(some 18), .mv (.t 17), none⟩,
       ⟨(some 19), .mv (.t 1), (some (18, false))⟩,
       ⟨(some 20), .mv (.t 0), (some (18, false))⟩,
       ⟨(some 21), .len true (.t 20), (some (18, false))⟩,
       ⟨(some 22), .bin .gtr (.t 19) (.t 21), (some (18, false))⟩,
       ⟨(some 23), .pick (.t 18) (.c (.d (.v (.bool true)))) (.t 22), none⟩])
   (.cond (.t 23) (.seq (.reg [⟨(some 24), .mv (.t 6), none⟩,
        ⟨(some 25), .bin .eql (.t 24) (.c (.d (.v (.string ⟨#[]⟩)))), none⟩,
        ⟨(some 26), .mv (.t 25), none⟩,
        ⟨(some 27), .mv (.t 5), (some (26, true))⟩,
        ⟨(some 28), .call 15 [(.t 27)], (some (26, true))⟩,
        ⟨(some 29), .pick (.t 26) (.t 28) (.c (.d (.v (.bool false)))), none⟩,
        ⟨(some 30), .mv (.t 29), none⟩,
        ⟨(some 31), .mv (.t 5), (some (30, true))⟩,
        ⟨(some 32), .call 14 [(.t 31)], (some (30, true))⟩,
        ⟨(some 33), .bin .eql (.t 32) (.c (.d (.v (.int .i64 0)))), (some (30, true))⟩,
        ⟨(some 34), .pick (.t 30) (.t 33) (.c (.d (.v (.bool false)))), none⟩,
        ⟨(some 35), .mv (.t 34), none⟩,
        ⟨(some 36), .mv (.t 5), (some (35, true))⟩,
        ⟨(some 37), .call 20 [(.t 36)], (some (35, true))⟩,
        ⟨(some 38), .bin .eql (.t 37) (.c (.d (.v (.int .i64 0)))), (some (35, true))⟩,
        ⟨(some 39), .pick (.t 35) (.t 38) (.c (.d (.v (.bool false)))), none⟩,
        ⟨(some 40), .mv (.t 39), none⟩,
        ⟨(some 41), .mv (.t 5), (some (40, true))⟩,
        ⟨(some 42), .call 13 [(.t 41)], (some (40, true))⟩,
        ⟨(some 43), .bin .eql (.t 42) (.c (.d (.v (.int .i64 0)))), (some (40, true))⟩,
        ⟨(some 44), .pick (.t 40) (.t 43) (.c (.d (.v (.bool false)))), none⟩,
        ⟨(some 45), .mv (.t 44), none⟩,
        ⟨(some 46), .mv (.t 5), (some (45, true))⟩,
        ⟨(some 47), .call 21 [(.t 46)], (some (45, true))⟩,
        ⟨(some 48), .bin .eql (.t 47) (.c (.d (.v (.int .u32 0)))), (some (45, true))⟩,
        ⟨(some 49), .pick (.t 45) (.t 48) (.c (.d (.v (.bool false)))), none⟩,
        ⟨(some 50), .mv (.t 49), none⟩,
        ⟨(some 51), .mv (.t 5), (some (50, true))⟩,
        ⟨(some 52), .call 22 [(.t 51)], (some (50, true))⟩,
        ⟨(some 53), .bin .eql (.t 52) (.c (.d (.v (.string ⟨#[]⟩)))), (some (50, true))⟩,
        ⟨(some 54), .pick (.t 50) (.t 53) (.c (.d (.v (.bool false)))), none⟩,
        ⟨(some 55), .mv (.t 54), none⟩,
        ⟨(some 56), .mv (.t 5), (some (55, true))⟩,
        ⟨(some 57), .call 19 [(.t 56), (.c (.d (.v (.int .i64 0))))], (some (55, true))⟩,
        ⟨(some 58), .bin .eql (.t 57) (.c (.d (.v (.string ⟨#[]⟩)))), (some (55, true))⟩,
        ⟨(some 59), .pick (.t 55) (.t 58) (.c (.d (.v (.bool false)))), none⟩,
        ⟨(some 60), .mv (.t 59), none⟩,
        ⟨(some 61), .mv (.t 5), (some (60, true))⟩,
        ⟨(some 62), .call 23 [(.t 61)], (some (60, true))⟩,
        ⟨(some 63), .un .not (.t 62), (some (60, true))⟩,
        ⟨(some 64), .pick (.t 60) (.t 63) (.c (.d (.v (.bool false)))), none⟩,
        ⟨(some 65), .mv (.t 64), none⟩,
        ⟨(some 66), .mv (.t 5), (some (65, true))⟩,
        ⟨(some 67), .call 14 [(.t 66)], (some (65, true))⟩,
        ⟨(some 68), .bin .eql (.t 67) (.c (.d (.v (.int .i64 0)))), (some (65, true))⟩,
        ⟨(some 69), .pick (.t 65) (.t 68) (.c (.d (.v (.bool false)))), none⟩,
        ⟨(some 70), .mv (.t 69), none⟩,
        ⟨(some 71), .call 11 [], (some (70, true))⟩,
        ⟨(some 72), .pick (.t 70) (.t 71) (.c (.d (.v (.bool false)))), none⟩,
        ⟨(some 4), .mv (.t 72), none⟩])
    (.ret)) (.skip)))
  (.seq (.seq (.reg [⟨(some 73), .mv (.t 6), none⟩,
       ⟨(some 74), .mv (.t 0), none⟩,
       ⟨(some 75), .mv (.t 1), none⟩,
       ⟨(some 76), .sli true (.t 74) none (some (.t 75)) 1, none⟩,
       ⟨(some 77), .bin .neq (.t 73) (.t 76), none⟩,
       ⟨(some 78), .mv (.t 77), none⟩,
       ⟨(some 79), .mv (.t 5), (some (78, false))⟩,
       ⟨(some 80), .call 14 [(.t 79)], (some (78, false))⟩,
       ⟨(some 81), .mv (.t 1), (some (78, false))⟩,
       ⟨(some 82), .bin .neq (.t 80) (.t 81), (some (78, false))⟩,
       ⟨(some 83), .pick (.t 78) (.c (.d (.v (.bool true)))) (.t 82), none⟩,
       ⟨(some 84), .mv (.t 83), none⟩,
       ⟨(some 85), .mv (.t 5), (some (84, false))⟩,
       ⟨(some 86), .call 15 [(.t 85)], (some (84, false))⟩,
       ⟨(some 87), .pick (.t 84) (.c (.d (.v (.bool true)))) (.t 86), none⟩])
   (.cond (.t 87) (.seq (.reg [⟨(some 4), .mv (.c (.d (.v (.bool false)))), none⟩])
    (.ret)) (.skip)))
  (.seq (.reg [⟨(some 88), .mv (.t 5), none⟩,
      ⟨(some 89), .mv (.t 0), none⟩,
      ⟨(some 90), .len true (.t 89), none⟩,
      ⟨(some 91), .mv (.t 1), none⟩,
      ⟨(some 92), .bin .sub (.t 90) (.t 91), none⟩,
      ⟨(some 93), .bin .add (.t 92) (.c (.d (.v (.int .i64 1)))), none⟩,
      ⟨(some 94), .call 19 [(.t 88), (.t 93)], none⟩])
  (.seq (.reg [⟨(some 95), .mv (.t 5), none⟩,
      ⟨(some 96), .call 15 [(.t 95)], none⟩,
      ⟨(some 97), .mv (.t 96), none⟩,
      ⟨(some 98), .mv (.t 5), (some (97, true))⟩,
      ⟨(some 99), .call 14 [(.t 98)], (some (97, true))⟩,
      ⟨(some 100), .mv (.t 1), (some (97, true))⟩,
      ⟨(some 101), .bin .eql (.t 99) (.t 100), (some (97, true))⟩,
      ⟨(some 102), .pick (.t 97) (.t 101) (.c (.d (.v (.bool false)))), none⟩,
      ⟨(some 103), .mv (.t 102), none⟩,
      ⟨(some 104), .mv (.t 5), (some (103, true))⟩,
      ⟨(some 105), .call 19 [(.t 104), (.c (.d (.v (.int .i64 0))))], (some (103, true))⟩,
      ⟨(some 106), .bin .eql (.t 105) (.c (.d (.v (.string ⟨#[]⟩)))), (some (103, true))⟩,
      ⟨(some 107), .pick (.t 103) (.t 106) (.c (.d (.v (.bool false)))), none⟩,
      ⟨(some 108), .mv (.t 107), none⟩,
      ⟨(some 109), .mv (.t 5), (some (108, true))⟩,
      ⟨(some 110), .call 23 [(.t 109)], (some (108, true))⟩,
      ⟨(some 111), .un .not (.t 110), (some (108, true))⟩,
      ⟨(some 112), .pick (.t 108) (.t 111) (.c (.d (.v (.bool false)))), none⟩,
      ⟨(some 113), .mv (.t 112), none⟩,
      ⟨(some 114), .call 11 [], (some (113, true))⟩,
      ⟨(some 115), .pick (.t 113) (.t 114) (.c (.d (.v (.bool false)))), none⟩,
      ⟨(some 4), .mv (.t 115), none⟩])
  (.ret))))))))
def r6 : List RC := [.t 4]

def c7l0 : AC :=
  .seq (.seq (.reg [⟨(some 92), .mv (.t 8), none⟩,
          ⟨(some 93), .mv (.t 0), none⟩,
          ⟨(some 94), .len false (.t 93), none⟩,
          ⟨(some 95), .bin .lss (.t 92) (.t 94), none⟩])
      (.cond (.t 95) (.skip) (.exit 3)))
     (.seq (.block 4 (.seq (.reg [⟨(some 98), .mv (.t 0), none⟩,
           ⟨(some 99), .mv (.t 8), none⟩,
           ⟨(some 100), .ia (.t 98) (.t 99) 3, none⟩,
           ⟨(some 101), .fa (.t 100) 0, none⟩,
           ⟨(some 102), .ld (.t 101) 1 false, none⟩])
       (.block 5 (.seq (.reg [⟨(some 104), .bin .eql (.t 102) (.c (.d (.v (.int .i64 0)))), none⟩,
            ⟨(some 103), .mv (.t 104), none⟩])
        (.cond (.t 103) (.seq (.dreg [[], [0], [], [], [2, 3], [4], [5], [6], [1, 7]] [⟨(some 105), .mv (.t 7), none⟩,
             ⟨(some 106), .call 20 [(.t 105)], none⟩,
             ⟨(some 107), .mv (.t 0), none⟩,
             ⟨(some 108), .mv (.t 8), none⟩,
             ⟨(some 109), .ia (.t 107) (.t 108) 3, none⟩,
             ⟨(some 110), .fa (.t 109) 1, none⟩,
             ⟨(some 111), .ld (.t 110) 1 false, none⟩,
             ⟨(some 112), .bin .and (.t 111) (.c (.d (.v (.int .i64 255)))), none⟩,
             ⟨(some 113), .bin .neq (.t 106) (.t 112), none⟩])
         (.cond (.t 113) (.seq (.reg [⟨(some 2), .mv (.c (.d (.v (.bool false)))), none⟩])
          (.ret)) (.skip))) (.seq (.reg [⟨(some 115), .bin .eql (.t 102) (.c (.d (.v (.int .i64 1)))), none⟩,
             ⟨(some 114), .mv (.t 115), none⟩])
         (.cond (.t 114) (.seq (.dreg [[], [0], [], [], [2, 3], [4], [5], [1, 6]] [⟨(some 116), .mv (.t 7), none⟩,
              ⟨(some 117), .call 13 [(.t 116)], none⟩,
              ⟨(some 118), .mv (.t 0), none⟩,
              ⟨(some 119), .mv (.t 8), none⟩,
              ⟨(some 120), .ia (.t 118) (.t 119) 3, none⟩,
              ⟨(some 121), .fa (.t 120) 1, none⟩,
              ⟨(some 122), .ld (.t 121) 1 false, none⟩,
              ⟨(some 123), .bin .neq (.t 117) (.t 122), none⟩])
          (.cond (.t 123) (.seq (.reg [⟨(some 2), .mv (.c (.d (.v (.bool false)))), none⟩])
           (.ret)) (.skip))) (.seq (.reg [⟨(some 125), .bin .eql (.t 102) (.c (.d (.v (.int .i64 2)))), none⟩,
              ⟨(some 124), .mv (.t 125), none⟩])
          (.cond (.t 124) (.seq (.dreg [[], [0], [], [], [2, 3], [4], [5], [6], [1, 7]] [⟨(some 126), .mv (.t 7), none⟩,
               ⟨(some 127), .call 21 [(.t 126)], none⟩,
               ⟨(some 128), .mv (.t 0), none⟩,
               ⟨(some 129), .mv (.t 8), none⟩,
               ⟨(some 130), .ia (.t 128) (.t 129) 3, none⟩,
               ⟨(some 131), .fa (.t 130) 1, none⟩,
               ⟨(some 132), .ld (.t 131) 1 false, none⟩,
               ⟨(some 133), .cvi .u32 (.t 132), none⟩,
               ⟨(some 134), .bin .neq (.t 127) (.t 133), none⟩])
           (.cond (.t 134) (.seq (.reg [⟨(some 2), .mv (.c (.d (.v (.bool false)))), none⟩])
            (.ret)) (.skip))) (.seq (.reg [⟨(some 136), .bin .eql (.t 102) (.c (.d (.v (.int .i64 3)))), none⟩,
               ⟨(some 135), .mv (.t 136), none⟩])
           (.cond (.t 135) (.seq (.dreg [[], [0], [], [], [2, 3], [4], [5], [1, 6]] [⟨(some 137), .mv (.t 7), none⟩,
                ⟨(some 138), .call 22 [(.t 137)], none⟩,
                ⟨(some 139), .mv (.t 0), none⟩,
                ⟨(some 140), .mv (.t 8), none⟩,
                ⟨(some 141), .ia (.t 139) (.t 140) 3, none⟩,
                ⟨(some 142), .fa (.t 141) 2, none⟩,
                ⟨(some 143), .ld (.t 142) 1 false, none⟩,
                ⟨(some 144), .bin .neq (.t 138) (.t 143), none⟩])
            (.cond (.t 144) (.seq (.reg [⟨(some 2), .mv (.c (.d (.v (.bool false)))), none⟩])
             (.ret)) (.skip))) (.skip))))))))))))
     (.reg [⟨(some 96), .mv (.t 8), none⟩,
        ⟨(some 97), .bin .add (.t 96) (.c (.d (.v (.int .i64 1)))), none⟩,
        ⟨(some 8), .mv (.t 97), none⟩]))

def c7l1 : AC :=
  .seq (.seq (.reg [⟨(some 14), .mv (.t 4), none⟩,
          ⟨(some 15), .mv (.t 0), none⟩,
          ⟨(some 16), .len false (.t 15), none⟩,
          ⟨(some 17), .bin .lss (.t 14) (.t 16), none⟩])
      (.cond (.t 17) (.skip) (.exit 0)))
     (.seq (.block 1 (.seq (.seq (.reg [⟨(some 20), .mv (.t 0), none⟩,
            ⟨(some 21), .mv (.t 4), none⟩,
            ⟨(some 22), .ia (.t 20) (.t 21) 3, none⟩,
            ⟨(some 23), .fa (.t 22) 2, none⟩,
            ⟨(some 24), .ld (.t 23) 1 false, none⟩,
            ⟨(some 25), .len true (.t 24), none⟩,
            ⟨(some 26), .bin .gtr (.t 25) (.c (.d (.v (.int .i64 200000)))), none⟩])
        (.cond (.t 26) (.seq (.reg [⟨(some 27), .call 11 [], none⟩,
             ⟨(some 2), .mv (.t 27), none⟩])
         (.ret)) (.skip)))
       (.seq (.reg [⟨(some 28), .mv (.t 0), none⟩,
           ⟨(some 29), .mv (.t 4), none⟩,
           ⟨(some 30), .ia (.t 28) (.t 29) 3, none⟩,
           ⟨(some 31), .fa (.t 30) 0, none⟩,
           ⟨(some 32), .ld (.t 31) 1 false, none⟩])
       (.block 2 (.seq (.reg [⟨(some 34), .bin .eql (.t 32) (.c (.d (.v (.int .i64 0)))), none⟩,
            ⟨(some 33), .mv (.t 34), none⟩])
        (.cond (.t 33) (.reg [⟨(some 35), .mv (.t 3), none⟩,
            ⟨(some 36), .mv (.t 0), none⟩,
            ⟨(some 37), .mv (.t 4), none⟩,
            ⟨(some 38), .ia (.t 36) (.t 37) 3, none⟩,
            ⟨(some 39), .fa (.t 38) 1, none⟩,
            ⟨(some 40), .ld (.t 39) 1 false, none⟩,
            ⟨(some 41), .call 24 [(.t 35), (.t 40)], none⟩]) (.seq (.reg [⟨(some 43), .bin .eql (.t 32) (.c (.d (.v (.int .i64 1)))), none⟩,
             ⟨(some 42), .mv (.t 43), none⟩])
         (.cond (.t 42) (.reg [⟨(some 44), .mv (.t 3), none⟩,
             ⟨(some 45), .mv (.t 0), none⟩,
             ⟨(some 46), .mv (.t 4), none⟩,
             ⟨(some 47), .ia (.t 45) (.t 46) 3, none⟩,
             ⟨(some 48), .fa (.t 47) 1, none⟩,
             ⟨(some 49), .ld (.t 48) 1 false, none⟩,
             ⟨(some 50), .call 9 [(.t 44), (.t 49)], none⟩]) (.seq (.reg [⟨(some 52), .bin .eql (.t 32) (.c (.d (.v (.int .i64 2)))), none⟩,
              ⟨(some 51), .mv (.t 52), none⟩])
          (.cond (.t 51) (.reg [⟨(some 53), .mv (.t 3), none⟩,
              ⟨(some 54), .mv (.t 0), none⟩,
              ⟨(some 55), .mv (.t 4), none⟩,
              ⟨(some 56), .ia (.t 54) (.t 55) 3, none⟩,
              ⟨(some 57), .fa (.t 56) 1, none⟩,
              ⟨(some 58), .ld (.t 57) 1 false, none⟩,
              ⟨(some 59), .cvi .u32 (.t 58), none⟩,
              ⟨(some 60), .call 25 [(.t 53), (.t 59)], none⟩]) (.seq (.reg [⟨(some 62), .bin .eql (.t 32) (.c (.d (.v (.int .i64 3)))), none⟩,
               ⟨(some 61), .mv (.t 62), none⟩])
           (.cond (.t 61) (.reg [⟨(some 63), .mv (.t 3), none⟩,
               ⟨(some 64), .mv (.t 0), none⟩,
               ⟨(some 65), .mv (.t 4), none⟩,
               ⟨(some 66), .ia (.t 64) (.t 65) 3, none⟩,
               ⟨(some 67), .fa (.t 66) 2, none⟩,
               ⟨(some 68), .ld (.t 67) 1 false, none⟩,
               ⟨(some 69), .call 26 [(.t 63), (.t 68)], none⟩]) (.skip)))))))))))))
     (.reg [⟨(some 18), .mv (.t 4), none⟩,
        ⟨(some 19), .bin .add (.t 18) (.c (.d (.v (.int .i64 1)))), none⟩,
        ⟨(some 4), .mv (.t 19), none⟩]))

/-- spinet/spinetlaw08.RiderBack -/
def c7 : AC :=
  .seq (.reg [⟨(some 2), .mv (.c (.d (.v (.bool false)))), none⟩])
  (.seq (.seq (.reg [⟨(some 9), .mv (.t 0), none⟩,
       ⟨(some 10), .len false (.t 9), none⟩,
       ⟨(some 11), .bin .gtr (.t 10) (.c (.d (.v (.int .i64 200)))), none⟩])
   (.cond (.t 11) (.seq (.reg [⟨(some 12), .call 11 [], none⟩,
        ⟨(some 2), .mv (.t 12), none⟩])
    (.ret)) (.skip)))
  (.seq (.reg [⟨(some 13), .call 8 [], none⟩,
      ⟨(some 3), .mv (.t 13), none⟩])
  (.seq (.seq (.reg [⟨(some 4), .mv (.c (.d (.v (.int .i64 0)))), none⟩])
   (.block 0 (.loop c7l1)))
  (.seq (.reg [⟨(some 71), .mv (.t 3), none⟩,
      ⟨(some 72), .call 10 [(.t 71)], none⟩,
      ⟨(some 70), .mv (.t 72), none⟩,
      ⟨(some 73), .ext (.t 70) 0, none⟩,
      ⟨(some 74), .ext (.t 70) 1, none⟩,
      ⟨(some 5), .mv (.t 73), none⟩,
      ⟨(some 6), .mv (.t 74), none⟩])
  (.seq (.seq (.reg [⟨(some 75), .mv (.t 6), none⟩,
       ⟨(some 76), .bin .neq (.t 75) (.c (.d (.v (.int .i64 0)))), none⟩])
   (.cond (.t 76) (.seq (.reg [⟨(some 77), .mv (.t 5), none⟩,
        ⟨(some 78), .bin .eql (.t 77) (.c (.d (.v (.string ⟨#[]⟩)))), none⟩,
        ⟨(some 79), .mv (.t 78), none⟩,
        ⟨(some 80), .mv (.t 6), (some (79, true))⟩,
        ⟨(some 81), .bin .eql (.t 80) (.c (.d (.v (.int .i64 1)))), (some (79, true))⟩,
        ⟨(some 82), .mv (.t 81), (some (79, true))⟩,
        ⟨(some 83), .mv (.t 6), (some (82, false))⟩,
        ⟨(some 84), .bin .eql (.t 83) (.c (.d (.v (.int .i64 2)))), (some (82, false))⟩,
        ⟨(some 85), .pick (.t 82) (.c (.d (.v (.bool true)))) (.t 84), (some (79, true))⟩,
        ⟨(some 86), .pick (.t 79) (.t 85) (.c (.d (.v (.bool false)))), none⟩,
        ⟨(some 87), .mv (.t 86), none⟩,
        ⟨(some 88), .call 11 [], (some (87, true))⟩,
        ⟨(some 89), .pick (.t 87) (.t 88) (.c (.d (.v (.bool false)))), none⟩,
        ⟨(some 2), .mv (.t 89), none⟩])
    (.ret)) (.skip)))
  (.seq (.reg [⟨(some 90), .mv (.t 5), none⟩,
      ⟨(some 91), .call 12 [(.t 90)], none⟩,
      ⟨(some 7), .mv (.t 91), none⟩])
  (.seq (.seq (.reg [⟨(some 8), .mv (.c (.d (.v (.int .i64 0)))), none⟩])
   (.block 3 (.loop c7l0)))
  (.seq (.reg [⟨(some 145), .mv (.t 7), none⟩,
      ⟨(some 146), .call 23 [(.t 145)], none⟩,
      ⟨(some 147), .mv (.t 146), none⟩,
      ⟨(some 148), .mv (.t 7), (some (147, true))⟩,
      ⟨(some 149), .call 15 [(.t 148)], (some (147, true))⟩,
      ⟨(some 150), .un .not (.t 149), (some (147, true))⟩,
      ⟨(some 151), .pick (.t 147) (.t 150) (.c (.d (.v (.bool false)))), none⟩,
      ⟨(some 152), .mv (.t 151), none⟩,
      ⟨(some 153), .mv (.t 7), (some (152, true))⟩,
      ⟨(some 154), .call 14 [(.t 153)], (some (152, true))⟩,
      ⟨(some 155), .mv (.t 5), (some (152, true))⟩,
      ⟨(some 156), .len true (.t 155), (some (152, true))⟩,
      ⟨(some 157), .bin .eql (.t 154) (.t 156), (some (152, true))⟩,
      ⟨(some 158), .pick (.t 152) (.t 157) (.c (.d (.v (.bool false)))), none⟩,
      ⟨(some 159), .mv (.t 158), none⟩,
      ⟨(some 160), .call 11 [], (some (159, true))⟩,
      ⟨(some 161), .pick (.t 159) (.t 160) (.c (.d (.v (.bool false)))), none⟩,
      ⟨(some 2), .mv (.t 161), none⟩])
  (.ret)))))))))
def r7 : List RC := [.t 2]

/-- spinet/rider.Write -/
def c8 : AC :=
  .seq (.reg [⟨(some 0), .mv (.c .nilp), none⟩])
  (.seq (.reg [⟨(some 1), .bd [.esl, (.d (.v (.bool false))), (.d (.v (.bool false)))] [], none⟩,
      ⟨(some 2), .bx (.t 1), none⟩,
      ⟨(some 0), .mv (.t 2), none⟩])
  (.ret))
def r8 : List RC := [.t 0]

/-- (*spinet/rider.Writer).Num -/
def c9 : AC :=
  .seq (.seq (.reg [⟨(some 4), .mv (.t 1), none⟩,
       ⟨(some 5), .call 27 [(.t 4), (.c (.d (.v (.int .i64 32))))], none⟩,
       ⟨(some 6), .un .not (.t 5), none⟩])
   (.cond (.t 6) (.seq (.reg [⟨(some 7), .mv (.t 0), none⟩,
        ⟨(some 8), .call 28 [(.t 7)], none⟩])
    (.ret)) (.skip)))
  (.reg [⟨(some 9), .mv (.t 0), none⟩,
     ⟨(some 10), .mv (.t 1), none⟩,
     ⟨(some 11), .call 30 [(.t 10)], none⟩,
     ⟨(some 12), .call 29 [(.t 9), (.t 11)], none⟩])
def r9 : List RC := []

/-- (*spinet/rider.Writer).Bytes -/
def c10 : AC :=
  .seq (.reg [⟨(some 2), .mv (.c (.d (.v (.string ⟨#[]⟩)))), none⟩,
      ⟨(some 3), .mv (.c (.d (.v (.int .i64 0)))), none⟩])
  (.seq (.seq (.reg [⟨(some 4), .mv (.t 0), none⟩,
       ⟨(some 5), .eqp false (.t 4) (.c .nilp), none⟩,
       ⟨(some 6), .mv (.t 5), none⟩,
       ⟨(some 7), .mv (.t 0), (some (6, false))⟩,
       ⟨(some 8), .nc (.t 7), (some (6, false))⟩,
       ⟨(some 9), .fa (.t 8) 1, (some (6, false))⟩,
       ⟨(some 10), .ld (.t 9) 1 false, (some (6, false))⟩,
       ⟨(some 11), .pick (.t 6) (.c (.d (.v (.bool true)))) (.t 10), none⟩])
   (.cond (.t 11) (.seq (.reg [⟨(some 2), .mv (.c (.d (.v (.string ⟨#[]⟩)))), none⟩,
        ⟨(some 3), .mv (.c (.d (.v (.int .i64 1)))), none⟩])
    (.ret)) (.skip)))
  (.seq (.seq (.reg [⟨(some 12), .mv (.t 0), none⟩,
       ⟨(some 13), .nc (.t 12), none⟩,
       ⟨(some 14), .fa (.t 13) 2, none⟩,
       ⟨(some 15), .ld (.t 14) 1 false, none⟩])
   (.cond (.t 15) (.seq (.reg [⟨(some 2), .mv (.c (.d (.v (.string ⟨#[]⟩)))), none⟩,
        ⟨(some 3), .mv (.c (.d (.v (.int .i64 2)))), none⟩])
    (.ret)) (.skip)))
  (.seq (.reg [⟨(some 16), .mv (.t 0), none⟩,
      ⟨(some 17), .nc (.t 16), none⟩,
      ⟨(some 18), .fa (.t 17) 0, none⟩,
      ⟨(some 19), .ld (.t 18) 1 false, none⟩,
      ⟨(some 20), .b2s (.t 19), none⟩,
      ⟨(some 2), .mv (.t 20), none⟩,
      ⟨(some 3), .mv (.c (.d (.v (.int .i64 0)))), none⟩])
  (.ret))))
def r10 : List RC := [.t 2, .t 3]

/-- spinet/spinetlaw08.wakes -/
def c11 : AC :=
  .seq (.reg [⟨(some 0), .mv (.c (.d (.v (.bool false)))), none⟩])
  (.seq (.reg [⟨(some 6), .call 8 [], none⟩,
      ⟨(some 1), .mv (.t 6), none⟩])
  (.seq (.reg [⟨(some 7), .mv (.t 1), none⟩,
      ⟨(some 8), .call 9 [(.t 7), (.c (.d (.v (.int .i64 64))))], none⟩])
  (.seq (.reg [⟨(some 9), .mv (.t 1), none⟩,
      ⟨(some 10), .call 26 [(.t 9), (.c (.d (.v (.string ⟨#[97, 98]⟩))))], none⟩])
  (.seq (.reg [⟨(some 12), .mv (.t 1), none⟩,
      ⟨(some 13), .call 10 [(.t 12)], none⟩,
      ⟨(some 11), .mv (.t 13), none⟩,
      ⟨(some 14), .ext (.t 11) 0, none⟩,
      ⟨(some 15), .ext (.t 11) 1, none⟩,
      ⟨(some 2), .mv (.t 14), none⟩,
      ⟨(some 3), .mv (.t 15), none⟩])
  (.seq (.reg [⟨(some 16), .call 12 [(.c (.d (.v (.string ⟨#[192, 128, 0]⟩))))], none⟩,
      ⟨(some 4), .mv (.t 16), none⟩])
  (.seq (.reg [⟨(some 17), .mv (.t 4), none⟩,
      ⟨(some 18), .call 13 [(.t 17)], none⟩,
      ⟨(some 5), .mv (.t 18), none⟩])
  (.seq (.reg [⟨(some 19), .mv (.t 3), none⟩,
      ⟨(some 20), .bin .eql (.t 19) (.c (.d (.v (.int .i64 0)))), none⟩,
      ⟨(some 21), .mv (.t 20), none⟩,
      ⟨(some 22), .mv (.t 2), (some (21, true))⟩,
      ⟨(some 23), .bin .eql (.t 22) (.c (.d (.v (.string ⟨#[192, 0, 97, 98, 0]⟩)))), (some (21, true))⟩,
      ⟨(some 24), .pick (.t 21) (.t 23) (.c (.d (.v (.bool false)))), none⟩,
      ⟨(some 25), .mv (.t 24), none⟩,
      ⟨(some 26), .mv (.t 5), (some (25, true))⟩,
      ⟨(some 27), .bin .eql (.t 26) (.c (.d (.v (.int .i64 0)))), (some (25, true))⟩,
      ⟨(some 28), .pick (.t 25) (.t 27) (.c (.d (.v (.bool false)))), none⟩,
      ⟨(some 29), .mv (.t 28), none⟩,
      ⟨(some 30), .mv (.t 4), (some (29, true))⟩,
      ⟨(some 31), .call 15 [(.t 30)], (some (29, true))⟩,
      ⟨(some 32), .pick (.t 29) (.t 31) (.c (.d (.v (.bool false)))), none⟩,
      ⟨(some 33), .mv (.t 32), none⟩,
      ⟨(some 34), .mv (.t 4), (some (33, true))⟩,
      ⟨(some 35), .call 14 [(.t 34)], (some (33, true))⟩,
      ⟨(some 36), .bin .eql (.t 35) (.c (.d (.v (.int .i64 0)))), (some (33, true))⟩,
      ⟨(some 37), .pick (.t 33) (.t 36) (.c (.d (.v (.bool false)))), none⟩,
      ⟨(some 0), .mv (.t 37), none⟩])
  (.ret))))))))
def r11 : List RC := [.t 0]

/-- spinet/rider.Read -/
def c12 : AC :=
  .seq (.reg [⟨(some 2), .mv (.c .nilp), none⟩])
  (.seq (.reg [⟨(some 3), .mv (.t 0), none⟩,
      ⟨(some 4), .bd [(.d (.v (.string ⟨#[]⟩))), (.d (.v (.int .i64 0))), (.d (.v (.bool false)))] [(0, 1, (.t 3))], none⟩,
      ⟨(some 5), .bx (.t 4), none⟩,
      ⟨(some 2), .mv (.t 5), none⟩])
  (.ret))
def r12 : List RC := [.t 2]

def c13l0 : AC :=
  .seq (.seq (.reg [⟨(some 24), .mv (.t 5), none⟩,
          ⟨(some 25), .mv (.t 3), none⟩,
          ⟨(some 26), .len true (.t 25), none⟩,
          ⟨(some 27), .bin .lss (.t 24) (.t 26), none⟩,
          ⟨(some 28), .mv (.t 27), none⟩,
          ⟨(some 29), .mv (.t 5), (some (28, true))⟩,
          ⟨(some 30), .bin .lss (.t 29) (.c (.d (.v (.int .i64 5)))), (some (28, true))⟩,
          ⟨(some 31), .pick (.t 28) (.t 30) (.c (.d (.v (.bool false)))), none⟩])
      (.cond (.t 31) (.skip) (.exit 0)))
     (.block 1 (.seq (.reg [⟨(some 32), .mv (.t 3), none⟩,
          ⟨(some 33), .mv (.t 5), none⟩,
          ⟨(some 34), .ix (.t 32) (.t 33), none⟩,
          ⟨(some 6), .mv (.t 34), none⟩])
      (.seq (.reg [⟨(some 35), .mv (.t 4), none⟩,
          ⟨(some 36), .mv (.t 6), none⟩,
          ⟨(some 37), .bin .and (.t 36) (.c (.d (.v (.int .u8 127)))), none⟩,
          ⟨(some 38), .cvi .i64 (.t 37), none⟩,
          ⟨(some 39), .mv (.t 5), none⟩,
          ⟨(some 40), .bin .mul (.c (.d (.v (.int .i64 7)))) (.t 39), none⟩,
          ⟨(some 41), .bin .shl (.t 38) (.t 40), none⟩,
          ⟨(some 42), .bin .or (.t 35) (.t 41), none⟩,
          ⟨(some 4), .mv (.t 42), none⟩])
      (.seq (.reg [⟨(some 43), .mv (.t 5), none⟩,
          ⟨(some 44), .bin .add (.t 43) (.c (.d (.v (.int .i64 1)))), none⟩,
          ⟨(some 5), .mv (.t 44), none⟩])
      (.seq (.seq (.reg [⟨(some 45), .mv (.t 6), none⟩,
           ⟨(some 46), .bin .geq (.t 45) (.c (.d (.v (.int .u8 128)))), none⟩])
       (.cond (.t 46) (.exit 1) (.skip)))
      (.seq (.seq (.reg [⟨(some 47), .mv (.t 6), none⟩,
           ⟨(some 48), .bin .and (.t 47) (.c (.d (.v (.int .u8 64)))), none⟩,
           ⟨(some 49), .bin .neq (.t 48) (.c (.d (.v (.int .u8 0)))), none⟩])
       (.cond (.t 49) (.reg [⟨(some 50), .mv (.t 4), none⟩,
           ⟨(some 51), .mv (.t 5), none⟩,
           ⟨(some 52), .bin .mul (.c (.d (.v (.int .i64 7)))) (.t 51), none⟩,
           ⟨(some 53), .bin .shl (.c (.d (.v (.int .i64 (-1))))) (.t 52), none⟩,
           ⟨(some 54), .bin .or (.t 50) (.t 53), none⟩,
           ⟨(some 4), .mv (.t 54), none⟩]) (.skip)))
      (.seq (.seq (.reg [⟨(some 55), .mv (.t 4), none⟩,
           ⟨(some 56), .call 27 [(.t 55), (.c (.d (.v (.int .i64 32))))], none⟩,
           ⟨(some 57), .mv (.t 56), none⟩,
           ⟨(some 58), .mv (.t 4), (some (57, true))⟩,
           ⟨(some 59), .call 30 [(.t 58)], (some (57, true))⟩,
           ⟨(some 60), .len true (.t 59), (some (57, true))⟩,
           ⟨(some 61), .mv (.t 5), (some (57, true))⟩,
           ⟨(some 62), .bin .eql (.t 60) (.t 61), (some (57, true))⟩,
           ⟨(some 63), .pick (.t 57) (.t 62) (.c (.d (.v (.bool false)))), none⟩])
       (.cond (.t 63) (.seq (.reg [⟨(some 64), .mv (.t 0), none⟩,
            ⟨(some 65), .nc (.t 64), none⟩,
            ⟨(some 66), .fa (.t 65) 1, none⟩,
            ⟨(some 67), .ld (.t 66) 1 false, none⟩,
            ⟨(some 68), .mv (.t 5), none⟩,
            ⟨(some 69), .bin .add (.t 67) (.t 68), none⟩,
            ⟨(some 70), .nc (.t 64), none⟩,
            ⟨(some 71), .fa (.t 70) 1, none⟩,
            ⟨none, .st (.t 71) (.t 69) 1, none⟩])
        (.seq (.reg [⟨(some 72), .mv (.t 4), none⟩,
            ⟨(some 2), .mv (.t 72), none⟩])
        (.ret))) (.skip)))
      (.exit 0))))))))

/-- (*spinet/rider.Reader).Num -/
def c13 : AC :=
  .seq (.reg [⟨(some 2), .mv (.c (.d (.v (.int .i64 0)))), none⟩])
  (.seq (.seq (.reg [⟨(some 7), .mv (.t 0), none⟩,
       ⟨(some 8), .eqp false (.t 7) (.c .nilp), none⟩,
       ⟨(some 9), .mv (.t 8), none⟩,
       ⟨(some 10), .mv (.t 0), (some (9, false))⟩,
       ⟨(some 11), .nc (.t 10), (some (9, false))⟩,
       ⟨(some 12), .fa (.t 11) 2, (some (9, false))⟩,
       ⟨(some 13), .ld (.t 12) 1 false, (some (9, false))⟩,
       ⟨(some 14), .pick (.t 9) (.c (.d (.v (.bool true)))) (.t 13), none⟩])
   (.cond (.t 14) (.seq (.reg [⟨(some 2), .mv (.c (.d (.v (.int .i64 0)))), none⟩])
    (.ret)) (.skip)))
  (.seq (.dreg [[], [0], [1], [2], [], [4], [5], [6], [3, 7], [8, 0, 1, 2, 3, 4, 5, 6, 7, 8]] [⟨(some 15), .mv (.t 0), none⟩,
      ⟨(some 16), .nc (.t 15), none⟩,
      ⟨(some 17), .fa (.t 16) 0, none⟩,
      ⟨(some 18), .ld (.t 17) 1 false, none⟩,
      ⟨(some 19), .mv (.t 0), none⟩,
      ⟨(some 20), .nc (.t 19), none⟩,
      ⟨(some 21), .fa (.t 20) 1, none⟩,
      ⟨(some 22), .ld (.t 21) 1 false, none⟩,
      ⟨(some 23), .sli true (.t 18) (some (.t 22)) none 1, none⟩,
      ⟨(some 3), .mv (.t 23), none⟩])
  (.seq (.reg [⟨(some 4), .mv (.c (.d (.v (.int .i64 0)))), none⟩,
      ⟨(some 5), .mv (.c (.d (.v (.int .i64 0)))), none⟩])
  (.seq (.block 0 (.loop c13l0))
  (.seq (.reg [⟨(some 73), .mv (.t 0), none⟩,
      ⟨(some 74), .nc (.t 73), none⟩,
      ⟨(some 75), .fa (.t 74) 2, none⟩,
      ⟨none, .st (.t 75) (.c (.d (.v (.bool true)))) 1, none⟩])
  (.seq (.reg [⟨(some 2), .mv (.c (.d (.v (.int .i64 0)))), none⟩])
  (.ret)))))))
def r13 : List RC := [.t 2]

/-- (*spinet/rider.Reader).At -/
def c14 : AC :=
  .seq (.reg [⟨(some 2), .mv (.c (.d (.v (.int .i64 0)))), none⟩])
  (.seq (.seq (.reg [⟨(some 3), .mv (.t 0), none⟩,
       ⟨(some 4), .eqp false (.t 3) (.c .nilp), none⟩])
   (.cond (.t 4) (.seq (.reg [⟨(some 2), .mv (.c (.d (.v (.int .i64 0)))), none⟩])
    (.ret)) (.skip)))
  (.seq (.reg [⟨(some 5), .mv (.t 0), none⟩,
      ⟨(some 6), .nc (.t 5), none⟩,
      ⟨(some 7), .fa (.t 6) 1, none⟩,
      ⟨(some 8), .ld (.t 7) 1 false, none⟩,
      ⟨(some 2), .mv (.t 8), none⟩])
  (.ret)))
def r14 : List RC := [.t 2]

/-- (*spinet/rider.Reader).Bad -/
def c15 : AC :=
  .seq (.reg [⟨(some 2), .mv (.c (.d (.v (.bool false)))), none⟩])
  (.seq (.reg [⟨(some 3), .mv (.t 0), none⟩,
      ⟨(some 4), .eqp false (.t 3) (.c .nilp), none⟩,
      ⟨(some 5), .mv (.t 4), none⟩,
      ⟨(some 6), .mv (.t 0), (some (5, false))⟩,
      ⟨(some 7), .nc (.t 6), (some (5, false))⟩,
      ⟨(some 8), .fa (.t 7) 2, (some (5, false))⟩,
      ⟨(some 9), .ld (.t 8) 1 false, (some (5, false))⟩,
      ⟨(some 10), .pick (.t 5) (.c (.d (.v (.bool true)))) (.t 9), none⟩,
      ⟨(some 2), .mv (.t 10), none⟩])
  (.ret))
def r15 : List RC := [.t 2]

/-- spinet/spinetlaw08.put -/
def c16 : AC :=
  .seq (.reg [⟨(some 5), .bx (.t 2), none⟩])
  (.seq (.reg [⟨(some 6), .fa (.t 5) 0, none⟩,
      ⟨(some 7), .ld (.t 6) 1 false, none⟩])
  (.block 0 (.seq (.reg [⟨(some 9), .bin .eql (.t 7) (.c (.d (.v (.int .i64 0)))), none⟩,
       ⟨(some 8), .mv (.t 9), none⟩])
   (.cond (.t 8) (.seq (.reg [⟨(some 10), .mv (.t 0), none⟩,
        ⟨(some 11), .fa (.t 5) 1, none⟩,
        ⟨(some 12), .ld (.t 11) 1 false, none⟩,
        ⟨(some 13), .call 24 [(.t 10), (.t 12)], none⟩])
    (.reg [⟨(some 14), .mv (.t 1), none⟩,
       ⟨(some 15), .fa (.t 5) 1, none⟩,
       ⟨(some 16), .ld (.t 15) 1 false, none⟩,
       ⟨(some 17), .call 31 [(.t 14), (.t 16)], none⟩])) (.seq (.reg [⟨(some 19), .bin .eql (.t 7) (.c (.d (.v (.int .i64 1)))), none⟩,
        ⟨(some 18), .mv (.t 19), none⟩])
    (.cond (.t 18) (.seq (.reg [⟨(some 20), .mv (.t 0), none⟩,
         ⟨(some 21), .fa (.t 5) 1, none⟩,
         ⟨(some 22), .ld (.t 21) 1 false, none⟩,
         ⟨(some 23), .call 9 [(.t 20), (.t 22)], none⟩])
     (.reg [⟨(some 24), .mv (.t 1), none⟩,
        ⟨(some 25), .fa (.t 5) 1, none⟩,
        ⟨(some 26), .ld (.t 25) 1 false, none⟩,
        ⟨(some 27), .call 32 [(.t 24), (.t 26)], none⟩])) (.seq (.reg [⟨(some 29), .bin .eql (.t 7) (.c (.d (.v (.int .i64 2)))), none⟩,
         ⟨(some 28), .mv (.t 29), none⟩])
     (.cond (.t 28) (.seq (.reg [⟨(some 30), .mv (.t 0), none⟩,
          ⟨(some 31), .fa (.t 5) 1, none⟩,
          ⟨(some 32), .ld (.t 31) 1 false, none⟩,
          ⟨(some 33), .cvi .u32 (.t 32), none⟩,
          ⟨(some 34), .call 25 [(.t 30), (.t 33)], none⟩])
      (.reg [⟨(some 35), .mv (.t 1), none⟩,
         ⟨(some 36), .fa (.t 5) 1, none⟩,
         ⟨(some 37), .ld (.t 36) 1 false, none⟩,
         ⟨(some 38), .cvi .u32 (.t 37), none⟩,
         ⟨(some 39), .call 33 [(.t 35), (.t 38)], none⟩])) (.seq (.reg [⟨(some 41), .bin .eql (.t 7) (.c (.d (.v (.int .i64 3)))), none⟩,
          ⟨(some 40), .mv (.t 41), none⟩])
      (.cond (.t 40) (.seq (.reg [⟨(some 42), .mv (.t 0), none⟩,
           ⟨(some 43), .fa (.t 5) 2, none⟩,
           ⟨(some 44), .ld (.t 43) 1 false, none⟩,
           ⟨(some 45), .call 26 [(.t 42), (.t 44)], none⟩])
       (.reg [⟨(some 46), .mv (.t 1), none⟩,
          ⟨(some 47), .fa (.t 5) 2, none⟩,
          ⟨(some 48), .ld (.t 47) 1 false, none⟩,
          ⟨(some 49), .call 34 [(.t 46), (.t 48)], none⟩])) (.skip)))))))))))
def r16 : List RC := []

/-- (*spinet/spinetref08.Writer).Bytes -/
def c17 : AC :=
  .seq (.reg [⟨(some 2), .mv (.c (.d (.v (.string ⟨#[]⟩)))), none⟩,
      ⟨(some 3), .mv (.c (.d (.v (.int .i64 0)))), none⟩])
  (.seq (.seq (.reg [⟨(some 4), .mv (.t 0), none⟩,
       ⟨(some 5), .nc (.t 4), none⟩,
       ⟨(some 6), .fa (.t 5) 1, none⟩,
       ⟨(some 7), .ld (.t 6) 1 false, none⟩])
   (.cond (.t 7) (.seq (.reg [⟨(some 2), .mv (.c (.d (.v (.string ⟨#[]⟩)))), none⟩,
        ⟨(some 3), .mv (.c (.d (.v (.int .i64 1)))), none⟩])
    (.ret)) (.skip)))
  (.seq (.seq (.reg [⟨(some 8), .mv (.t 0), none⟩,
       ⟨(some 9), .nc (.t 8), none⟩,
       ⟨(some 10), .fa (.t 9) 0, none⟩,
       ⟨(some 11), .ld (.t 10) 1 false, none⟩,
       ⟨(some 12), .len false (.t 11), none⟩,
       ⟨(some 13), .bin .gtr (.t 12) (.c (.d (.v (.int .i64 131072)))), none⟩])
   (.cond (.t 13) (.seq (.reg [⟨(some 2), .mv (.c (.d (.v (.string ⟨#[]⟩)))), none⟩,
        ⟨(some 3), .mv (.c (.d (.v (.int .i64 2)))), none⟩])
    (.ret)) (.skip)))
  (.seq (.reg [⟨(some 14), .mv (.t 0), none⟩,
      ⟨(some 15), .nc (.t 14), none⟩,
      ⟨(some 16), .fa (.t 15) 0, none⟩,
      ⟨(some 17), .ld (.t 16) 1 false, none⟩,
      ⟨(some 18), .b2s (.t 17), none⟩,
      ⟨(some 2), .mv (.t 18), none⟩,
      ⟨(some 3), .mv (.c (.d (.v (.int .i64 0)))), none⟩])
  (.ret))))
def r17 : List RC := [.t 2, .t 3]

/-- spinet/spinetlaw08.get -/
def c18 : AC :=
  .seq (.reg [⟨(some 5), .bx (.t 2), none⟩,
      ⟨(some 6), .mv (.c (.d (.v (.bool false)))), none⟩])
  (.seq (.reg [⟨(some 7), .mv (.c (.d (.v (.bool true)))), none⟩])
  (.seq (.seq (.reg [⟨(some 8), .fa (.t 5) 0, none⟩,
       ⟨(some 9), .ld (.t 8) 1 false, none⟩])
   (.block 0 (.seq (.reg [⟨(some 11), .bin .eql (.t 9) (.c (.d (.v (.int .i64 0)))), none⟩,
        ⟨(some 10), .mv (.t 11), none⟩])
    (.cond (.t 10) (.reg [⟨(some 12), .mv (.t 0), none⟩,
        ⟨(some 13), .call 20 [(.t 12)], none⟩,
        ⟨(some 14), .mv (.t 1), none⟩,
        ⟨(some 15), .call 35 [(.t 14)], none⟩,
        ⟨(some 16), .bin .eql (.t 13) (.t 15), none⟩,
        ⟨(some 7), .mv (.t 16), none⟩]) (.seq (.reg [⟨(some 18), .bin .eql (.t 9) (.c (.d (.v (.int .i64 1)))), none⟩,
         ⟨(some 17), .mv (.t 18), none⟩])
     (.cond (.t 17) (.reg [⟨(some 19), .mv (.t 0), none⟩,
         ⟨(some 20), .call 13 [(.t 19)], none⟩,
         ⟨(some 21), .mv (.t 1), none⟩,
         ⟨(some 22), .call 36 [(.t 21)], none⟩,
         ⟨(some 23), .bin .eql (.t 20) (.t 22), none⟩,
         ⟨(some 7), .mv (.t 23), none⟩]) (.seq (.reg [⟨(some 25), .bin .eql (.t 9) (.c (.d (.v (.int .i64 2)))), none⟩,
          ⟨(some 24), .mv (.t 25), none⟩])
      (.cond (.t 24) (.reg [⟨(some 26), .mv (.t 0), none⟩,
          ⟨(some 27), .call 21 [(.t 26)], none⟩,
          ⟨(some 28), .mv (.t 1), none⟩,
          ⟨(some 29), .call 37 [(.t 28)], none⟩,
          ⟨(some 30), .bin .eql (.t 27) (.t 29), none⟩,
          ⟨(some 7), .mv (.t 30), none⟩]) (.seq (.reg [⟨(some 32), .bin .eql (.t 9) (.c (.d (.v (.int .i64 3)))), none⟩,
           ⟨(some 31), .mv (.t 32), none⟩])
       (.cond (.t 31) (.reg [⟨(some 33), .mv (.t 0), none⟩,
           ⟨(some 34), .call 22 [(.t 33)], none⟩,
           ⟨(some 35), .mv (.t 1), none⟩,
           ⟨(some 36), .call 38 [(.t 35)], none⟩,
           ⟨(some 37), .bin .eql (.t 34) (.t 36), none⟩,
           ⟨(some 7), .mv (.t 37), none⟩]) (.seq (.reg [⟨(some 39), .bin .eql (.t 9) (.c (.d (.v (.int .i64 4)))), none⟩,
            ⟨(some 38), .mv (.t 39), none⟩])
        (.cond (.t 38) (.dreg [[], [], [1], [0, 2], [], [], [5], [4, 6, 3], [3, 7], [8, 7, 0, 1, 2, 3, 4, 5, 6, 7, 8]] [⟨(some 40), .mv (.t 0), none⟩,
            ⟨(some 41), .fa (.t 5) 1, none⟩,
            ⟨(some 42), .ld (.t 41) 1 false, none⟩,
            ⟨(some 43), .call 19 [(.t 40), (.t 42)], none⟩,
            ⟨(some 44), .mv (.t 1), none⟩,
            ⟨(some 45), .fa (.t 5) 1, none⟩,
            ⟨(some 46), .ld (.t 45) 1 false, none⟩,
            ⟨(some 47), .call 39 [(.t 44), (.t 46)], none⟩,
            ⟨(some 48), .bin .eql (.t 43) (.t 47), none⟩,
            ⟨(some 7), .mv (.t 48), none⟩]) (.skip)))))))))))))
  (.seq (.dreg [[], [0], [1], [2, 1, 1], [1], [4, 1], [5, 1], [6, 1], [3, 7, 1], [1, 8], [9, 3], [10], [11, 10, 10], [10], [13, 12, 10], [12, 14, 10], [10, 15], [16, 14], [17], [18, 17, 17], [17], [20, 19, 17], [19, 21, 17], [17, 22], [23, 21, 0, 1, 2, 3, 4, 5, 6, 7, 8, 9, 10, 11, 12, 13, 14, 15, 16, 17, 18, 19, 20, 21, 22, 23]] [⟨(some 49), .mv (.t 7), none⟩,
      ⟨(some 50), .mv (.t 49), none⟩,
      ⟨(some 51), .mv (.t 0), (some (50, true))⟩,
      ⟨(some 52), .call 14 [(.t 51)], (some (50, true))⟩,
      ⟨(some 53), .mv (.t 1), (some (50, true))⟩,
      ⟨(some 54), .nc (.t 53), (some (50, true))⟩,
      ⟨(some 55), .fa (.t 54) 1, (some (50, true))⟩,
      ⟨(some 56), .ld (.t 55) 1 false, (some (50, true))⟩,
      ⟨(some 57), .bin .eql (.t 52) (.t 56), (some (50, true))⟩,
      ⟨(some 58), .pick (.t 50) (.t 57) (.c (.d (.v (.bool false)))), none⟩,
      ⟨(some 59), .mv (.t 58), none⟩,
      ⟨(some 60), .mv (.t 0), (some (59, true))⟩,
      ⟨(some 61), .call 15 [(.t 60)], (some (59, true))⟩,
      ⟨(some 62), .mv (.t 1), (some (59, true))⟩,
      ⟨(some 63), .call 40 [(.t 62)], (some (59, true))⟩,
      ⟨(some 64), .eqs false (.t 61) (.t 63), (some (59, true))⟩,
      ⟨(some 65), .pick (.t 59) (.t 64) (.c (.d (.v (.bool false)))), none⟩,
      ⟨(some 66), .mv (.t 65), none⟩,
      ⟨(some 67), .mv (.t 0), (some (66, true))⟩,
      ⟨(some 68), .call 23 [(.t 67)], (some (66, true))⟩,
      ⟨(some 69), .mv (.t 1), (some (66, true))⟩,
      ⟨(some 70), .call 41 [(.t 69)], (some (66, true))⟩,
      ⟨(some 71), .eqs false (.t 68) (.t 70), (some (66, true))⟩,
      ⟨(some 72), .pick (.t 66) (.t 71) (.c (.d (.v (.bool false)))), none⟩,
      ⟨(some 6), .mv (.t 72), none⟩])
  (.ret))))
def r18 : List RC := [.t 6]

/-- (*spinet/rider.Reader).Raw -/
def c19 : AC :=
  .seq (.reg [⟨(some 4), .mv (.c (.d (.v (.string ⟨#[]⟩)))), none⟩])
  (.seq (.reg [⟨(some 8), .mv (.t 0), none⟩,
      ⟨(some 9), .mv (.t 1), none⟩,
      ⟨(some 10), .call 42 [(.t 8), (.t 9)], none⟩,
      ⟨(some 7), .mv (.t 10), none⟩,
      ⟨(some 11), .ext (.t 7) 0, none⟩,
      ⟨(some 12), .ext (.t 7) 1, none⟩,
      ⟨(some 5), .mv (.t 11), none⟩,
      ⟨(some 6), .mv (.t 12), none⟩])
  (.seq (.reg [⟨(some 13), .mv (.t 5), none⟩,
      ⟨(some 4), .mv (.t 13), none⟩])
  (.ret)))
def r19 : List RC := [.t 4]

/-- (*spinet/rider.Reader).Byte -/
def c20 : AC :=
  .seq (.reg [⟨(some 2), .mv (.c (.d (.v (.int .i64 0)))), none⟩])
  (.seq (.reg [⟨(some 6), .mv (.t 0), none⟩,
      ⟨(some 7), .call 42 [(.t 6), (.c (.d (.v (.int .i64 1))))], none⟩,
      ⟨(some 5), .mv (.t 7), none⟩,
      ⟨(some 8), .ext (.t 5) 0, none⟩,
      ⟨(some 9), .ext (.t 5) 1, none⟩,
      ⟨(some 3), .mv (.t 8), none⟩,
      ⟨(some 4), .mv (.t 9), none⟩])
  (.seq (.seq (.reg [⟨(some 10), .mv (.t 4), none⟩,
       ⟨(some 11), .un .not (.t 10), none⟩])
   (.cond (.t 11) (.seq (.reg [⟨(some 2), .mv (.c (.d (.v (.int .i64 0)))), none⟩])
    (.ret)) (.skip)))
  (.seq (.reg [⟨(some 12), .mv (.t 3), none⟩,
      ⟨(some 13), .ix (.t 12) (.c (.d (.v (.int .i64 0)))), none⟩,
      ⟨(some 14), .cvi .i64 (.t 13), none⟩,
      ⟨(some 2), .mv (.t 14), none⟩])
  (.ret))))
def r20 : List RC := [.t 2]

/-- (*spinet/rider.Reader).Word -/
def c21 : AC :=
  .seq (.reg [⟨(some 2), .mv (.c (.d (.v (.int .u32 0)))), none⟩])
  (.seq (.reg [⟨(some 6), .mv (.t 0), none⟩,
      ⟨(some 7), .call 42 [(.t 6), (.c (.d (.v (.int .i64 4))))], none⟩,
      ⟨(some 5), .mv (.t 7), none⟩,
      ⟨(some 8), .ext (.t 5) 0, none⟩,
      ⟨(some 9), .ext (.t 5) 1, none⟩,
      ⟨(some 3), .mv (.t 8), none⟩,
      ⟨(some 4), .mv (.t 9), none⟩])
  (.seq (.seq (.reg [⟨(some 10), .mv (.t 4), none⟩,
       ⟨(some 11), .un .not (.t 10), none⟩])
   (.cond (.t 11) (.seq (.reg [⟨(some 2), .mv (.c (.d (.v (.int .u32 0)))), none⟩])
    (.ret)) (.skip)))
  (.seq (.dreg [[], [0], [1], [], [3], [4], [5], [2, 6], [], [8], [9], [10], [7, 11], [], [13], [14], [15], [12, 16], [17, 0, 1, 2, 3, 4, 5, 6, 7, 8, 9, 10, 11, 12, 13, 14, 15, 16, 17]] [⟨(some 12), .mv (.t 3), none⟩,
      ⟨(some 13), .ix (.t 12) (.c (.d (.v (.int .i64 0)))), none⟩,
      ⟨(some 14), .cvi .u32 (.t 13), none⟩,
      ⟨(some 15), .mv (.t 3), none⟩,
      ⟨(some 16), .ix (.t 15) (.c (.d (.v (.int .i64 1)))), none⟩,
      ⟨(some 17), .cvi .u32 (.t 16), none⟩,
      ⟨(some 18), .bin .shl (.t 17) (.c (.d (.v (.int .u64 8)))), none⟩,
      ⟨(some 19), .bin .or (.t 14) (.t 18), none⟩,
      ⟨(some 20), .mv (.t 3), none⟩,
      ⟨(some 21), .ix (.t 20) (.c (.d (.v (.int .i64 2)))), none⟩,
      ⟨(some 22), .cvi .u32 (.t 21), none⟩,
      ⟨(some 23), .bin .shl (.t 22) (.c (.d (.v (.int .u64 16)))), none⟩,
      ⟨(some 24), .bin .or (.t 19) (.t 23), none⟩,
      ⟨(some 25), .mv (.t 3), none⟩,
      ⟨(some 26), .ix (.t 25) (.c (.d (.v (.int .i64 3)))), none⟩,
      ⟨(some 27), .cvi .u32 (.t 26), none⟩,
      ⟨(some 28), .bin .shl (.t 27) (.c (.d (.v (.int .u64 24)))), none⟩,
      ⟨(some 29), .bin .or (.t 24) (.t 28), none⟩,
      ⟨(some 2), .mv (.t 29), none⟩])
  (.ret))))
def r21 : List RC := [.t 2]

/-- (*spinet/rider.Reader).Text -/
def c22 : AC :=
  .seq (.reg [⟨(some 2), .mv (.c (.d (.v (.string ⟨#[]⟩)))), none⟩])
  (.seq (.seq (.reg [⟨(some 4), .mv (.t 0), none⟩,
       ⟨(some 5), .eqp false (.t 4) (.c .nilp), none⟩,
       ⟨(some 6), .mv (.t 5), none⟩,
       ⟨(some 7), .mv (.t 0), (some (6, false))⟩,
       ⟨(some 8), .nc (.t 7), (some (6, false))⟩,
       ⟨(some 9), .fa (.t 8) 2, (some (6, false))⟩,
       ⟨(some 10), .ld (.t 9) 1 false, (some (6, false))⟩,
       ⟨(some 11), .pick (.t 6) (.c (.d (.v (.bool true)))) (.t 10), none⟩])
   (.cond (.t 11) (.seq (.reg [⟨(some 2), .mv (.c (.d (.v (.string ⟨#[]⟩)))), none⟩])
    (.ret)) (.skip)))
  (.seq (.dreg [[], [0], [1], [2], [], [4], [5], [6], [3, 7], [8], [9, 9, 0, 1, 2, 3, 4, 5, 6, 7, 8, 9]] [⟨(some 12), .mv (.t 0), none⟩,
      ⟨(some 13), .nc (.t 12), none⟩,
      ⟨(some 14), .fa (.t 13) 0, none⟩,
      ⟨(some 15), .ld (.t 14) 1 false, none⟩,
      ⟨(some 16), .mv (.t 0), none⟩,
      ⟨(some 17), .nc (.t 16), none⟩,
      ⟨(some 18), .fa (.t 17) 1, none⟩,
      ⟨(some 19), .ld (.t 18) 1 false, none⟩,
      ⟨(some 20), .sli true (.t 15) (some (.t 19)) none 1, none⟩,
      ⟨(some 21), .call 43 [(.t 20), (.c (.d (.v (.int .u8 0))))], none⟩,
      ⟨(some 3), .mv (.t 21), none⟩])
  (.seq (.seq (.reg [⟨(some 22), .mv (.t 3), none⟩,
       ⟨(some 23), .bin .lss (.t 22) (.c (.d (.v (.int .i64 0)))), none⟩,
       ⟨(some 24), .mv (.t 23), none⟩,
       ⟨(some 25), .mv (.t 3), (some (24, false))⟩,
       ⟨(some 26), .bin .gtr (.t 25) (.c (.d (.v (.int .i64 64)))), (some (24, false))⟩,
       ⟨(some 27), .pick (.t 24) (.c (.d (.v (.bool true)))) (.t 26), none⟩])
   (.cond (.t 27) (.seq (.reg [⟨(some 28), .mv (.t 0), none⟩,
        ⟨(some 29), .nc (.t 28), none⟩,
        ⟨(some 30), .fa (.t 29) 2, none⟩,
        ⟨none, .st (.t 30) (.c (.d (.v (.bool true)))) 1, none⟩])
    (.seq (.reg [⟨(some 2), .mv (.c (.d (.v (.string ⟨#[]⟩)))), none⟩])
    (.ret))) (.skip)))
  (.seq (.reg [⟨(some 31), .mv (.t 0), none⟩,
      ⟨(some 32), .nc (.t 31), none⟩,
      ⟨(some 33), .fa (.t 32) 1, none⟩,
      ⟨(some 34), .ld (.t 33) 1 false, none⟩,
      ⟨(some 35), .mv (.t 3), none⟩,
      ⟨(some 36), .bin .add (.t 35) (.c (.d (.v (.int .i64 1)))), none⟩,
      ⟨(some 37), .bin .add (.t 34) (.t 36), none⟩,
      ⟨(some 38), .nc (.t 31), none⟩,
      ⟨(some 39), .fa (.t 38) 1, none⟩,
      ⟨none, .st (.t 39) (.t 37) 1, none⟩])
  (.seq (.dreg [[], [0], [1], [2], [], [4], [5], [6], [], [7, 8], [9], [], [11], [12], [13], [14], [3, 10, 15], [16, 0, 1, 2, 3, 4, 5, 6, 7, 8, 9, 10, 11, 12, 13, 14, 15, 16]] [⟨(some 40), .mv (.t 0), none⟩,
      ⟨(some 41), .nc (.t 40), none⟩,
      ⟨(some 42), .fa (.t 41) 0, none⟩,
      ⟨(some 43), .ld (.t 42) 1 false, none⟩,
      ⟨(some 44), .mv (.t 0), none⟩,
      ⟨(some 45), .nc (.t 44), none⟩,
      ⟨(some 46), .fa (.t 45) 1, none⟩,
      ⟨(some 47), .ld (.t 46) 1 false, none⟩,
      ⟨(some 48), .mv (.t 3), none⟩,
      ⟨(some 49), .bin .sub (.t 47) (.t 48), none⟩,
      ⟨(some 50), .bin .sub (.t 49) (.c (.d (.v (.int .i64 1)))), none⟩,
      ⟨(some 51), .mv (.t 0), none⟩,
      ⟨(some 52), .nc (.t 51), none⟩,
      ⟨(some 53), .fa (.t 52) 1, none⟩,
      ⟨(some 54), .ld (.t 53) 1 false, none⟩,
      ⟨(some 55), .bin .sub (.t 54) (.c (.d (.v (.int .i64 1)))), none⟩,
      ⟨(some 56), .sli true (.t 43) (some (.t 50)) (some (.t 55)) 1, none⟩,
      ⟨(some 2), .mv (.t 56), none⟩])
  (.ret))))))
def r22 : List RC := [.t 2]

/-- (*spinet/rider.Reader).End -/
def c23 : AC :=
  .seq (.reg [⟨(some 2), .mv (.c (.d (.v (.bool false)))), none⟩])
  (.seq (.dreg [[], [0], [1], [2, 1], [3], [4, 3], [5, 3], [6, 3], [3], [8, 3], [9, 3], [10, 3], [11, 3], [7, 12, 3], [3, 13], [14, 3, 0, 1, 2, 3, 4, 5, 6, 7, 8, 9, 10, 11, 12, 13, 14]] [⟨(some 3), .mv (.t 0), none⟩,
      ⟨(some 4), .call 15 [(.t 3)], none⟩,
      ⟨(some 5), .un .not (.t 4), none⟩,
      ⟨(some 6), .mv (.t 5), none⟩,
      ⟨(some 7), .mv (.t 0), (some (6, true))⟩,
      ⟨(some 8), .nc (.t 7), (some (6, true))⟩,
      ⟨(some 9), .fa (.t 8) 1, (some (6, true))⟩,
      ⟨(some 10), .ld (.t 9) 1 false, (some (6, true))⟩,
      ⟨(some 11), .mv (.t 0), (some (6, true))⟩,
      ⟨(some 12), .nc (.t 11), (some (6, true))⟩,
      ⟨(some 13), .fa (.t 12) 0, (some (6, true))⟩,
      ⟨(some 14), .ld (.t 13) 1 false, (some (6, true))⟩,
      ⟨(some 15), .len true (.t 14), (some (6, true))⟩,
      ⟨(some 16), .bin .eql (.t 10) (.t 15), (some (6, true))⟩,
      ⟨(some 17), .pick (.t 6) (.t 16) (.c (.d (.v (.bool false)))), none⟩,
      ⟨(some 2), .mv (.t 17), none⟩])
  (.ret))
def r23 : List RC := [.t 2]

/-- (*spinet/rider.Writer).Byte -/
def c24 : AC :=
  .reg [⟨(some 4), .mv (.t 0), none⟩,
     ⟨(some 5), .mv (.t 1), none⟩,
     ⟨(some 6), .cvi .u8 (.t 5), none⟩,
     ⟨(some 7), .bs .im 5 1 [(.t 6)], none⟩,
     ⟨(some 8), .b2s (.t 7), none⟩,
     ⟨(some 9), .call 29 [(.t 4), (.t 8)], none⟩]
def r24 : List RC := []

def c25l0 : AC :=
  .seq (.reg [⟨(some 7), .bin .lss (.t 6) (.c (.d (.v (.int .i64 4)))), none⟩])
     (.seq (.cond (.t 7) (.skip) (.exit 0))
     (.seq (.block 1 (.seq (.reg [⟨(some 8), .mv (.t 6), none⟩,
           ⟨(some 5), .mv (.t 8), none⟩])
       (.reg [⟨(some 9), .mv (.t 5), none⟩,
          ⟨(some 10), .mv (.t 1), none⟩,
          ⟨(some 11), .mv (.t 5), none⟩,
          ⟨(some 12), .bin .mul (.c (.d (.v (.int .i64 8)))) (.t 11), none⟩,
          ⟨(some 13), .bin .shr (.t 10) (.t 12), none⟩,
          ⟨(some 14), .cvi .u8 (.t 13), none⟩,
          ⟨(some 15), .iar (.t 4) (.t 9) 4 1, none⟩,
          ⟨none, .st (.t 15) (.t 14) 1, none⟩])))
     (.reg [⟨(some 16), .bin .add (.t 6) (.c (.d (.v (.int .i64 1)))), none⟩,
        ⟨(some 6), .mv (.t 16), none⟩])))

/-- (*spinet/rider.Writer).Word -/
def c25 : AC :=
  .seq (.reg [⟨(some 4), .al [(.d (.v (.int .u8 0))), (.d (.v (.int .u8 0))), (.d (.v (.int .u8 0))), (.d (.v (.int .u8 0)))], none⟩])
  (.seq (.seq (.reg [⟨(some 6), .mv (.c (.d (.v (.int .i64 0)))), none⟩])
   (.block 0 (.loop c25l0)))
  (.reg [⟨(some 17), .mv (.t 0), none⟩,
     ⟨(some 18), .sla (.t 4) none none 4 1, none⟩,
     ⟨(some 19), .b2s (.t 18), none⟩,
     ⟨(some 20), .call 29 [(.t 17), (.t 19)], none⟩]))
def r25 : List RC := []

/-- (*spinet/rider.Writer).Text -/
def c26 : AC :=
  .seq (.seq (.reg [⟨(some 4), .mv (.t 1), none⟩,
       ⟨(some 5), .len true (.t 4), none⟩,
       ⟨(some 6), .bin .gtr (.t 5) (.c (.d (.v (.int .i64 64)))), none⟩,
       ⟨(some 7), .mv (.t 6), none⟩,
       ⟨(some 8), .mv (.t 1), (some (7, false))⟩,
       ⟨(some 9), .call 43 [(.t 8), (.c (.d (.v (.int .u8 0))))], (some (7, false))⟩,
       ⟨(some 10), .bin .geq (.t 9) (.c (.d (.v (.int .i64 0)))), (some (7, false))⟩,
       ⟨(some 11), .pick (.t 7) (.c (.d (.v (.bool true)))) (.t 10), none⟩])
   (.cond (.t 11) (.seq (.reg [⟨(some 12), .mv (.t 0), none⟩,
        ⟨(some 13), .call 28 [(.t 12)], none⟩])
    (.ret)) (.skip)))
  (.reg [⟨(some 14), .mv (.t 0), none⟩,
     ⟨(some 15), .mv (.t 1), none⟩,
     ⟨(some 16), .bin .add (.t 15) (.c (.d (.v (.string ⟨#[0]⟩)))), none⟩,
     ⟨(some 17), .call 29 [(.t 14), (.t 16)], none⟩])
def r26 : List RC := []

/-- spinet/bits.Fits -/
def c27 : AC :=
  .seq (.reg [⟨(some 4), .mv (.c (.d (.v (.bool false)))), none⟩])
  (.seq (.reg [⟨(some 5), .mv (.t 1), none⟩,
      ⟨(some 6), .bin .geq (.t 5) (.c (.d (.v (.int .i64 1)))), none⟩,
      ⟨(some 7), .mv (.t 6), none⟩,
      ⟨(some 8), .mv (.t 1), (some (7, true))⟩,
      ⟨(some 9), .bin .leq (.t 8) (.c (.d (.v (.int .i64 32)))), (some (7, true))⟩,
      ⟨(some 10), .pick (.t 7) (.t 9) (.c (.d (.v (.bool false)))), none⟩,
      ⟨(some 11), .mv (.t 10), none⟩,
      ⟨(some 12), .mv (.t 1), (some (11, true))⟩,
      ⟨(some 13), .bin .sub (.t 12) (.c (.d (.v (.int .i64 1)))), (some (11, true))⟩,
      ⟨(some 14), .bin .shl (.c (.d (.v (.int .i64 (-1))))) (.t 13), (some (11, true))⟩,
      ⟨(some 15), .mv (.t 0), (some (11, true))⟩,
      ⟨(some 16), .bin .leq (.t 14) (.t 15), (some (11, true))⟩,
      ⟨(some 17), .pick (.t 11) (.t 16) (.c (.d (.v (.bool false)))), none⟩,
      ⟨(some 18), .mv (.t 17), none⟩,
      ⟨(some 19), .mv (.t 0), (some (18, true))⟩,
      ⟨(some 20), .mv (.t 1), (some (18, true))⟩,
      ⟨(some 21), .bin .sub (.t 20) (.c (.d (.v (.int .i64 1)))), (some (18, true))⟩,
      ⟨(some 22), .bin .shl (.c (.d (.v (.int .i64 1)))) (.t 21), (some (18, true))⟩,
      ⟨(some 23), .bin .lss (.t 19) (.t 22), (some (18, true))⟩,
      ⟨(some 24), .pick (.t 18) (.t 23) (.c (.d (.v (.bool false)))), none⟩,
      ⟨(some 4), .mv (.t 24), none⟩])
  (.ret))
def r27 : List RC := [.t 4]

/-- (*spinet/rider.Writer).spoil -/
def c28 : AC :=
  .seq (.reg [⟨(some 2), .mv (.t 0), none⟩,
      ⟨(some 3), .eqp true (.t 2) (.c .nilp), none⟩])
  (.cond (.t 3) (.reg [⟨(some 4), .mv (.t 0), none⟩,
      ⟨(some 5), .nc (.t 4), none⟩,
      ⟨(some 6), .fa (.t 5) 1, none⟩,
      ⟨none, .st (.t 6) (.c (.d (.v (.bool true)))) 1, none⟩]) (.skip))
def r28 : List RC := []

/-- (*spinet/rider.Writer).put -/
def c29 : AC :=
  .seq (.seq (.reg [⟨(some 4), .mv (.t 0), none⟩,
       ⟨(some 5), .eqp false (.t 4) (.c .nilp), none⟩,
       ⟨(some 6), .mv (.t 5), none⟩,
       ⟨(some 7), .mv (.t 0), (some (6, false))⟩,
       ⟨(some 8), .nc (.t 7), (some (6, false))⟩,
       ⟨(some 9), .fa (.t 8) 2, (some (6, false))⟩,
       ⟨(some 10), .ld (.t 9) 1 false, (some (6, false))⟩,
       ⟨(some 11), .pick (.t 6) (.c (.d (.v (.bool true)))) (.t 10), none⟩])
   (.cond (.t 11) (.ret) (.skip)))
  (.seq (.reg [⟨(some 12), .mv (.t 0), none⟩,
      ⟨(some 13), .mv (.t 0), none⟩,
      ⟨(some 14), .nc (.t 13), none⟩,
      ⟨(some 15), .fa (.t 14) 0, none⟩,
      ⟨(some 16), .ld (.t 15) 1 false, none⟩,
      ⟨(some 17), .mv (.t 1), none⟩,
      ⟨(some 18), .app .gr 5 1 1 (.t 16) (.t 17), none⟩,
      ⟨(some 19), .nc (.t 12), none⟩,
      ⟨(some 20), .fa (.t 19) 0, none⟩,
      ⟨none, .st (.t 20) (.t 18) 1, none⟩])
  (.reg [⟨(some 21), .mv (.t 0), none⟩,
     ⟨(some 22), .mv (.t 0), none⟩,
     ⟨(some 23), .nc (.t 22), none⟩,
     ⟨(some 24), .fa (.t 23) 0, none⟩,
     ⟨(some 25), .ld (.t 24) 1 false, none⟩,
     ⟨(some 26), .len false (.t 25), none⟩,
     ⟨(some 27), .bin .gtr (.t 26) (.c (.d (.v (.int .i64 131072)))), none⟩,
     ⟨(some 28), .nc (.t 21), none⟩,
     ⟨(some 29), .fa (.t 28) 2, none⟩,
     ⟨none, .st (.t 29) (.t 27) 1, none⟩]))
def r29 : List RC := []

def c30l0 : AC :=
  .seq (.seq (.reg [⟨(some 4), .mv (.t 0), none⟩,
          ⟨(some 5), .call 27 [(.t 4), (.c (.d (.v (.int .i64 7))))], none⟩,
          ⟨(some 6), .un .not (.t 5), none⟩])
      (.cond (.t 6) (.skip) (.exit 0)))
     (.seq (.block 1 (.reg [⟨(some 9), .mv (.t 3), none⟩,
          ⟨(some 10), .mv (.t 0), none⟩,
          ⟨(some 11), .cvi .u8 (.t 10), none⟩,
          ⟨(some 12), .bin .or (.t 11) (.c (.d (.v (.int .u8 128)))), none⟩,
          ⟨(some 13), .bs .im 5 1 [(.t 12)], none⟩,
          ⟨(some 14), .app .gr 5 1 1 (.t 9) (.t 13), none⟩,
          ⟨(some 3), .mvg 5 1 (.t 14), none⟩]))
     (.reg [⟨(some 7), .mv (.t 0), none⟩,
        ⟨(some 8), .bin .shr (.t 7) (.c (.d (.v (.int .u64 7)))), none⟩,
        ⟨(some 0), .mv (.t 8), none⟩]))

/-- spinet/rider.compact -/
def c30 : AC :=
  .seq (.reg [⟨(some 2), .mv (.c (.d (.v (.string ⟨#[]⟩)))), none⟩])
  (.seq (.reg [⟨(some 3), .mvg 5 1 (.c .esl), none⟩])
  (.seq (.block 0 (.loop c30l0))
  (.seq (.reg [⟨(some 15), .mv (.t 3), none⟩,
      ⟨(some 16), .mv (.t 0), none⟩,
      ⟨(some 17), .cvi .u8 (.t 16), none⟩,
      ⟨(some 18), .bin .and (.t 17) (.c (.d (.v (.int .u8 127)))), none⟩,
      ⟨(some 19), .bs .im 5 1 [(.t 18)], none⟩,
      ⟨(some 20), .app .gr 5 1 1 (.t 15) (.t 19), none⟩,
      ⟨(some 21), .b2s (.t 20), none⟩,
      ⟨(some 2), .mv (.t 21), none⟩])
  (.ret))))
def r30 : List RC := [.t 2]

/-- (*spinet/spinetref08.Writer).Byte -/
def c31 : AC :=
  .reg [⟨(some 4), .mv (.t 0), none⟩,
     ⟨(some 5), .mv (.t 0), none⟩,
     ⟨(some 6), .nc (.t 5), none⟩,
     ⟨(some 7), .fa (.t 6) 0, none⟩,
     ⟨(some 8), .ld (.t 7) 1 false, none⟩,
     ⟨(some 9), .mv (.t 1), none⟩,
     ⟨(some 10), .bin .rem (.t 9) (.c (.d (.v (.int .i64 256)))), none⟩,
     ⟨(some 11), .bin .add (.t 10) (.c (.d (.v (.int .i64 256)))), none⟩,
     ⟨(some 12), .bin .rem (.t 11) (.c (.d (.v (.int .i64 256)))), none⟩,
     ⟨(some 13), .cvi .u8 (.t 12), none⟩,
     ⟨(some 14), .bs .im 5 1 [(.t 13)], none⟩,
     ⟨(some 15), .app .gr 5 1 1 (.t 8) (.t 14), none⟩,
     ⟨(some 16), .nc (.t 4), none⟩,
     ⟨(some 17), .fa (.t 16) 0, none⟩,
     ⟨none, .st (.t 17) (.t 15) 1, none⟩]
def r31 : List RC := []

def c32l0 : AC :=
  .seq (.seq (.reg [⟨(some 10), .mv (.t 1), none⟩,
          ⟨(some 11), .bin .lss (.t 10) (.c (.d (.v (.int .i64 (-64))))), none⟩,
          ⟨(some 12), .mv (.t 11), none⟩,
          ⟨(some 13), .mv (.t 1), (some (12, false))⟩,
          ⟨(some 14), .bin .gtr (.t 13) (.c (.d (.v (.int .i64 63)))), (some (12, false))⟩,
          ⟨(some 15), .pick (.t 12) (.c (.d (.v (.bool true)))) (.t 14), none⟩])
      (.cond (.t 15) (.skip) (.exit 0)))
     (.block 1 (.seq (.reg [⟨(some 16), .mv (.t 0), none⟩,
          ⟨(some 17), .mv (.t 1), none⟩,
          ⟨(some 18), .bin .rem (.t 17) (.c (.d (.v (.int .i64 128)))), none⟩,
          ⟨(some 19), .bin .add (.t 18) (.c (.d (.v (.int .i64 128)))), none⟩,
          ⟨(some 20), .bin .rem (.t 19) (.c (.d (.v (.int .i64 128)))), none⟩,
          ⟨(some 21), .bin .add (.t 20) (.c (.d (.v (.int .i64 128)))), none⟩,
          ⟨(some 22), .call 31 [(.t 16), (.t 21)], none⟩])
      (.reg [⟨(some 23), .mv (.t 1), none⟩,
         ⟨(some 24), .mv (.t 1), none⟩,
         ⟨(some 25), .bin .rem (.t 24) (.c (.d (.v (.int .i64 128)))), none⟩,
         ⟨(some 26), .bin .add (.t 25) (.c (.d (.v (.int .i64 128)))), none⟩,
         ⟨(some 27), .bin .rem (.t 26) (.c (.d (.v (.int .i64 128)))), none⟩,
         ⟨(some 28), .bin .sub (.t 23) (.t 27), none⟩,
         ⟨(some 29), .bin .quo (.t 28) (.c (.d (.v (.int .i64 128)))), none⟩,
         ⟨(some 1), .mv (.t 29), none⟩])))

/-- (*spinet/spinetref08.Writer).Num -/
def c32 : AC :=
  .seq (.seq (.reg [⟨(some 4), .mv (.t 1), none⟩,
       ⟨(some 5), .call 44 [(.t 4), (.c (.d (.v (.int .i64 32))))], none⟩,
       ⟨(some 6), .un .not (.t 5), none⟩])
   (.cond (.t 6) (.seq (.reg [⟨(some 7), .mv (.t 0), none⟩,
        ⟨(some 8), .nc (.t 7), none⟩,
        ⟨(some 9), .fa (.t 8) 1, none⟩,
        ⟨none, .st (.t 9) (.c (.d (.v (.bool true)))) 1, none⟩])
    (.ret)) (.skip)))
  (.seq (.block 0 (.loop c32l0))
  (.reg [⟨(some 30), .mv (.t 0), none⟩,
     ⟨(some 31), .mv (.t 1), none⟩,
     ⟨(some 32), .bin .add (.t 31) (.c (.d (.v (.int .i64 128)))), none⟩,
     ⟨(some 33), .bin .rem (.t 32) (.c (.d (.v (.int .i64 128)))), none⟩,
     ⟨(some 34), .call 31 [(.t 30), (.t 33)], none⟩]))
def r32 : List RC := []

def c33l0 : AC :=
  .seq (.seq (.reg [⟨(some 5), .mv (.t 4), none⟩,
         ⟨(some 6), .bin .lss (.t 5) (.c (.d (.v (.int .i64 4)))), none⟩])
     (.cond (.t 6) (.skip) (.exit 0)))
    (.seq (.block 1 (.reg [⟨(some 9), .mv (.t 0), none⟩,
         ⟨(some 10), .mv (.t 1), none⟩,
         ⟨(some 11), .mv (.t 4), none⟩,
         ⟨(some 12), .bin .mul (.c (.d (.v (.int .i64 8)))) (.t 11), none⟩,
         ⟨(some 13), .call 45 [(.t 10), (.t 12), (.c (.d (.v (.int .i64 8))))], none⟩,
         ⟨(some 14), .cvi .i64 (.t 13), none⟩,
         ⟨(some 15), .call 31 [(.t 9), (.t 14)], none⟩]))
    (.reg [⟨(some 7), .mv (.t 4), none⟩,
       ⟨(some 8), .bin .add (.t 7) (.c (.d (.v (.int .i64 1)))), none⟩,
       ⟨(some 4), .mv (.t 8), none⟩]))

/-- (*spinet/spinetref08.Writer).Word -/
def c33 : AC :=
  .seq (.reg [⟨(some 4), .mv (.c (.d (.v (.int .i64 0)))), none⟩])
  (.block 0 (.loop c33l0))
def r33 : List RC := []

def c34l0 : AC :=
  .seq (.seq (.reg [⟨(some 11), .mv (.t 4), none⟩,
          ⟨(some 12), .mv (.t 1), none⟩,
          ⟨(some 13), .len true (.t 12), none⟩,
          ⟨(some 14), .bin .lss (.t 11) (.t 13), none⟩])
      (.cond (.t 14) (.skip) (.exit 0)))
     (.seq (.block 1 (.seq (.reg [⟨(some 17), .mv (.t 1), none⟩,
           ⟨(some 18), .mv (.t 4), none⟩,
           ⟨(some 19), .ix (.t 17) (.t 18), none⟩,
           ⟨(some 20), .bin .eql (.t 19) (.c (.d (.v (.int .u8 0)))), none⟩])
       (.cond (.t 20) (.seq (.reg [⟨(some 21), .mv (.t 0), none⟩,
            ⟨(some 22), .nc (.t 21), none⟩,
            ⟨(some 23), .fa (.t 22) 1, none⟩,
            ⟨none, .st (.t 23) (.c (.d (.v (.bool true)))) 1, none⟩])
        (.ret)) (.skip))))
     (.reg [⟨(some 15), .mv (.t 4), none⟩,
        ⟨(some 16), .bin .add (.t 15) (.c (.d (.v (.int .i64 1)))), none⟩,
        ⟨(some 4), .mv (.t 16), none⟩]))

/-- (*spinet/spinetref08.Writer).Text -/
def c34 : AC :=
  .seq (.seq (.reg [⟨(some 5), .mv (.t 1), none⟩,
       ⟨(some 6), .len true (.t 5), none⟩,
       ⟨(some 7), .bin .gtr (.t 6) (.c (.d (.v (.int .i64 64)))), none⟩])
   (.cond (.t 7) (.seq (.reg [⟨(some 8), .mv (.t 0), none⟩,
        ⟨(some 9), .nc (.t 8), none⟩,
        ⟨(some 10), .fa (.t 9) 1, none⟩,
        ⟨none, .st (.t 10) (.c (.d (.v (.bool true)))) 1, none⟩])
    (.ret)) (.skip)))
  (.seq (.seq (.reg [⟨(some 4), .mv (.c (.d (.v (.int .i64 0)))), none⟩])
   (.block 0 (.loop c34l0)))
  (.reg [⟨(some 24), .mv (.t 0), none⟩,
     ⟨(some 25), .mv (.t 0), none⟩,
     ⟨(some 26), .nc (.t 25), none⟩,
     ⟨(some 27), .fa (.t 26) 0, none⟩,
     ⟨(some 28), .ld (.t 27) 1 false, none⟩,
     ⟨(some 29), .mv (.t 1), none⟩,
     ⟨(some 30), .app .gr 5 1 1 (.t 28) (.t 29), none⟩,
     ⟨(some 31), .bs .im 5 1 [(.c (.d (.v (.int .u8 0))))], none⟩,
     ⟨(some 32), .app .gr 5 1 1 (.t 30) (.t 31), none⟩,
     ⟨(some 33), .nc (.t 24), none⟩,
     ⟨(some 34), .fa (.t 33) 0, none⟩,
     ⟨none, .st (.t 34) (.t 32) 1, none⟩]))
def r34 : List RC := []

/-- (*spinet/spinetref08.Reader).Byte -/
def c35 : AC :=
  .seq (.reg [⟨(some 2), .mv (.c (.d (.v (.int .i64 0)))), none⟩])
  (.seq (.reg [⟨(some 4), .mv (.t 0), none⟩,
      ⟨(some 5), .call 39 [(.t 4), (.c (.d (.v (.int .i64 1))))], none⟩,
      ⟨(some 3), .mv (.t 5), none⟩])
  (.seq (.seq (.reg [⟨(some 6), .mv (.t 0), none⟩,
       ⟨(some 7), .nc (.t 6), none⟩,
       ⟨(some 8), .fa (.t 7) 2, none⟩,
       ⟨(some 9), .ld (.t 8) 1 false, none⟩])
   (.cond (.t 9) (.seq (.reg [⟨(some 2), .mv (.c (.d (.v (.int .i64 0)))), none⟩])
    (.ret)) (.skip)))
  (.seq (.reg [⟨(some 10), .mv (.t 3), none⟩,
      ⟨(some 11), .ix (.t 10) (.c (.d (.v (.int .i64 0)))), none⟩,
      ⟨(some 12), .cvi .i64 (.t 11), none⟩,
      ⟨(some 2), .mv (.t 12), none⟩])
  (.ret))))
def r35 : List RC := [.t 2]

def c36l0 : AC :=
  .seq (.seq (.reg [⟨(some 13), .mv (.t 5), none⟩,
          ⟨(some 14), .bin .lss (.t 13) (.c (.d (.v (.int .i64 5)))), none⟩,
          ⟨(some 15), .mv (.t 14), none⟩,
          ⟨(some 16), .mv (.t 0), (some (15, true))⟩,
          ⟨(some 17), .nc (.t 16), (some (15, true))⟩,
          ⟨(some 18), .fa (.t 17) 2, (some (15, true))⟩,
          ⟨(some 19), .ld (.t 18) 1 false, (some (15, true))⟩,
          ⟨(some 20), .un .not (.t 19), (some (15, true))⟩,
          ⟨(some 21), .pick (.t 15) (.t 20) (.c (.d (.v (.bool false)))), none⟩])
      (.cond (.t 21) (.skip) (.exit 0)))
     (.block 1 (.seq (.reg [⟨(some 22), .mv (.t 0), none⟩,
          ⟨(some 23), .call 35 [(.t 22)], none⟩,
          ⟨(some 7), .mv (.t 23), none⟩])
      (.seq (.reg [⟨(some 24), .mv (.t 5), none⟩,
          ⟨(some 25), .bin .add (.t 24) (.c (.d (.v (.int .i64 1)))), none⟩,
          ⟨(some 5), .mv (.t 25), none⟩])
      (.seq (.reg [⟨(some 26), .mv (.t 4), none⟩,
          ⟨(some 27), .mv (.t 7), none⟩,
          ⟨(some 28), .bin .rem (.t 27) (.c (.d (.v (.int .i64 128)))), none⟩,
          ⟨(some 29), .mv (.t 6), none⟩,
          ⟨(some 30), .bin .mul (.t 28) (.t 29), none⟩,
          ⟨(some 31), .bin .add (.t 26) (.t 30), none⟩,
          ⟨(some 4), .mv (.t 31), none⟩])
      (.seq (.reg [⟨(some 32), .mv (.t 6), none⟩,
          ⟨(some 33), .bin .mul (.t 32) (.c (.d (.v (.int .i64 128)))), none⟩,
          ⟨(some 6), .mv (.t 33), none⟩])
      (.seq (.reg [⟨(some 34), .mv (.t 7), none⟩,
          ⟨(some 35), .bin .lss (.t 34) (.c (.d (.v (.int .i64 128)))), none⟩])
      (.cond (.t 35) (.seq (.seq (.reg [⟨(some 36), .mv (.t 7), none⟩,
            ⟨(some 37), .bin .geq (.t 36) (.c (.d (.v (.int .i64 64)))), none⟩])
        (.cond (.t 37) (.reg [⟨(some 38), .mv (.t 4), none⟩,
            ⟨(some 39), .mv (.t 6), none⟩,
            ⟨(some 40), .bin .sub (.t 38) (.t 39), none⟩,
            ⟨(some 4), .mv (.t 40), none⟩]) (.skip)))
       (.seq (.reg [⟨(some 41), .bd [.esl, (.d (.v (.bool false)))] [], none⟩,
           ⟨(some 42), .bx (.t 41), none⟩,
           ⟨(some 8), .mv (.t 42), none⟩])
       (.seq (.reg [⟨(some 43), .mv (.t 8), none⟩,
           ⟨(some 44), .mv (.t 4), none⟩,
           ⟨(some 45), .call 32 [(.t 43), (.t 44)], none⟩])
       (.seq (.seq (.reg [⟨(some 46), .mv (.t 0), none⟩,
            ⟨(some 47), .nc (.t 46), none⟩,
            ⟨(some 48), .fa (.t 47) 2, none⟩,
            ⟨(some 49), .ld (.t 48) 1 false, none⟩,
            ⟨(some 50), .un .not (.t 49), none⟩,
            ⟨(some 51), .mv (.t 50), none⟩,
            ⟨(some 52), .mv (.t 4), (some (51, true))⟩,
            ⟨(some 53), .call 44 [(.t 52), (.c (.d (.v (.int .i64 32))))], (some (51, true))⟩,
            ⟨(some 54), .pick (.t 51) (.t 53) (.c (.d (.v (.bool false)))), none⟩,
            ⟨(some 55), .mv (.t 54), none⟩,
            ⟨(some 56), .mv (.t 8), (some (55, true))⟩,
            ⟨(some 57), .nc (.t 56), (some (55, true))⟩,
            ⟨(some 58), .fa (.t 57) 0, (some (55, true))⟩,
            ⟨(some 59), .ld (.t 58) 1 false, (some (55, true))⟩,
            ⟨(some 60), .len false (.t 59), (some (55, true))⟩,
            ⟨(some 61), .mv (.t 5), (some (55, true))⟩,
            ⟨(some 62), .bin .eql (.t 60) (.t 61), (some (55, true))⟩,
            ⟨(some 63), .pick (.t 55) (.t 62) (.c (.d (.v (.bool false)))), none⟩])
        (.cond (.t 63) (.seq (.reg [⟨(some 64), .mv (.t 4), none⟩,
             ⟨(some 2), .mv (.t 64), none⟩])
         (.ret)) (.skip)))
       (.reg [⟨(some 5), .mv (.c (.d (.v (.int .i64 5)))), none⟩]))))) (.skip))))))))

/-- (*spinet/spinetref08.Reader).Num -/
def c36 : AC :=
  .seq (.reg [⟨(some 2), .mv (.c (.d (.v (.int .i64 0)))), none⟩])
  (.seq (.reg [⟨(some 9), .mv (.t 0), none⟩,
      ⟨(some 10), .nc (.t 9), none⟩,
      ⟨(some 11), .fa (.t 10) 1, none⟩,
      ⟨(some 12), .ld (.t 11) 1 false, none⟩,
      ⟨(some 3), .mv (.t 12), none⟩])
  (.seq (.reg [⟨(some 4), .mv (.c (.d (.v (.int .i64 0)))), none⟩,
      ⟨(some 5), .mv (.c (.d (.v (.int .i64 0)))), none⟩])
  (.seq (.reg [⟨(some 6), .mv (.c (.d (.v (.int .i64 1)))), none⟩])
  (.seq (.block 0 (.loop c36l0))
  (.seq (.reg [⟨(some 65), .mv (.t 0), none⟩,
      ⟨(some 66), .mv (.t 0), none⟩,
      ⟨(some 67), .mv (.t 3), none⟩,
      ⟨(some 68), .nc (.t 65), none⟩,
      ⟨(some 69), .fa (.t 68) 2, none⟩,
      ⟨none, .st (.t 69) (.c (.d (.v (.bool true)))) 1, none⟩,
      ⟨(some 70), .nc (.t 66), none⟩,
      ⟨(some 71), .fa (.t 70) 1, none⟩,
      ⟨none, .st (.t 71) (.t 67) 1, none⟩])
  (.seq (.reg [⟨(some 2), .mv (.c (.d (.v (.int .i64 0)))), none⟩])
  (.ret)))))))
def r36 : List RC := [.t 2]

def c37l0 : AC :=
  .seq (.seq (.reg [⟨(some 12), .mv (.t 5), none⟩,
          ⟨(some 13), .bin .geq (.t 12) (.c (.d (.v (.int .i64 0)))), none⟩])
      (.cond (.t 13) (.skip) (.exit 0)))
     (.seq (.block 1 (.reg [⟨(some 16), .mv (.t 4), none⟩,
          ⟨(some 17), .bin .mul (.t 16) (.c (.d (.v (.int .u32 256)))), none⟩,
          ⟨(some 18), .mv (.t 3), none⟩,
          ⟨(some 19), .mv (.t 5), none⟩,
          ⟨(some 20), .ix (.t 18) (.t 19), none⟩,
          ⟨(some 21), .cvi .u32 (.t 20), none⟩,
          ⟨(some 22), .bin .add (.t 17) (.t 21), none⟩,
          ⟨(some 4), .mv (.t 22), none⟩]))
     (.reg [⟨(some 14), .mv (.t 5), none⟩,
        ⟨(some 15), .bin .sub (.t 14) (.c (.d (.v (.int .i64 1)))), none⟩,
        ⟨(some 5), .mv (.t 15), none⟩]))

/-- (*spinet/spinetref08.Reader).Word -/
def c37 : AC :=
  .seq (.reg [⟨(some 2), .mv (.c (.d (.v (.int .u32 0)))), none⟩])
  (.seq (.reg [⟨(some 6), .mv (.t 0), none⟩,
      ⟨(some 7), .call 39 [(.t 6), (.c (.d (.v (.int .i64 4))))], none⟩,
      ⟨(some 3), .mv (.t 7), none⟩])
  (.seq (.seq (.reg [⟨(some 8), .mv (.t 0), none⟩,
       ⟨(some 9), .nc (.t 8), none⟩,
       ⟨(some 10), .fa (.t 9) 2, none⟩,
       ⟨(some 11), .ld (.t 10) 1 false, none⟩])
   (.cond (.t 11) (.seq (.reg [⟨(some 2), .mv (.c (.d (.v (.int .u32 0)))), none⟩])
    (.ret)) (.skip)))
  (.seq (.reg [⟨(some 4), .mv (.c (.d (.v (.int .u32 0)))), none⟩])
  (.seq (.seq (.reg [⟨(some 5), .mv (.c (.d (.v (.int .i64 3)))), none⟩])
   (.block 0 (.loop c37l0)))
  (.seq (.reg [⟨(some 23), .mv (.t 4), none⟩,
      ⟨(some 2), .mv (.t 23), none⟩])
  (.ret))))))
def r37 : List RC := [.t 2]

def c38l0 : AC :=
  .seq (.seq (.dreg [[], [0], [1], [2], [3, 2], [4, 2], [5, 2], [2], [6, 7, 2], [2], [9, 2], [10, 2], [11, 2], [12, 2], [8, 13, 2], [2, 14]] [⟨(some 9), .mv (.t 3), none⟩,
           ⟨(some 10), .bin .leq (.t 9) (.c (.d (.v (.int .i64 64)))), none⟩,
           ⟨(some 11), .mv (.t 10), none⟩,
           ⟨(some 12), .mv (.t 0), (some (11, true))⟩,
           ⟨(some 13), .nc (.t 12), (some (11, true))⟩,
           ⟨(some 14), .fa (.t 13) 1, (some (11, true))⟩,
           ⟨(some 15), .ld (.t 14) 1 false, (some (11, true))⟩,
           ⟨(some 16), .mv (.t 3), (some (11, true))⟩,
           ⟨(some 17), .bin .add (.t 15) (.t 16), (some (11, true))⟩,
           ⟨(some 18), .mv (.t 0), (some (11, true))⟩,
           ⟨(some 19), .nc (.t 18), (some (11, true))⟩,
           ⟨(some 20), .fa (.t 19) 0, (some (11, true))⟩,
           ⟨(some 21), .ld (.t 20) 1 false, (some (11, true))⟩,
           ⟨(some 22), .len true (.t 21), (some (11, true))⟩,
           ⟨(some 23), .bin .lss (.t 17) (.t 22), (some (11, true))⟩,
           ⟨(some 24), .pick (.t 11) (.t 23) (.c (.d (.v (.bool false)))), none⟩])
       (.cond (.t 24) (.skip) (.exit 0)))
      (.seq (.block 1 (.seq (.dreg [[], [0], [1], [2], [], [4], [5], [6], [], [7, 8], [3, 9], [10]] [⟨(some 27), .mv (.t 0), none⟩,
            ⟨(some 28), .nc (.t 27), none⟩,
            ⟨(some 29), .fa (.t 28) 0, none⟩,
            ⟨(some 30), .ld (.t 29) 1 false, none⟩,
            ⟨(some 31), .mv (.t 0), none⟩,
            ⟨(some 32), .nc (.t 31), none⟩,
            ⟨(some 33), .fa (.t 32) 1, none⟩,
            ⟨(some 34), .ld (.t 33) 1 false, none⟩,
            ⟨(some 35), .mv (.t 3), none⟩,
            ⟨(some 36), .bin .add (.t 34) (.t 35), none⟩,
            ⟨(some 37), .ix (.t 30) (.t 36), none⟩,
            ⟨(some 38), .bin .eql (.t 37) (.c (.d (.v (.int .u8 0)))), none⟩])
        (.cond (.t 38) (.seq (.reg [⟨(some 39), .mv (.t 0), none⟩,
             ⟨(some 40), .nc (.t 39), none⟩,
             ⟨(some 41), .fa (.t 40) 1, none⟩,
             ⟨(some 42), .ld (.t 41) 1 false, none⟩,
             ⟨(some 43), .mv (.t 3), none⟩,
             ⟨(some 44), .bin .add (.t 43) (.c (.d (.v (.int .i64 1)))), none⟩,
             ⟨(some 45), .bin .add (.t 42) (.t 44), none⟩,
             ⟨(some 46), .nc (.t 39), none⟩,
             ⟨(some 47), .fa (.t 46) 1, none⟩,
             ⟨none, .st (.t 47) (.t 45) 1, none⟩])
         (.seq (.dreg [[], [0], [1], [2], [], [4], [5], [6], [], [7, 8], [9], [], [11], [12], [13], [14], [3, 10, 15], [16, 0, 1, 2, 3, 4, 5, 6, 7, 8, 9, 10, 11, 12, 13, 14, 15, 16]] [⟨(some 48), .mv (.t 0), none⟩,
             ⟨(some 49), .nc (.t 48), none⟩,
             ⟨(some 50), .fa (.t 49) 0, none⟩,
             ⟨(some 51), .ld (.t 50) 1 false, none⟩,
             ⟨(some 52), .mv (.t 0), none⟩,
             ⟨(some 53), .nc (.t 52), none⟩,
             ⟨(some 54), .fa (.t 53) 1, none⟩,
             ⟨(some 55), .ld (.t 54) 1 false, none⟩,
             ⟨(some 56), .mv (.t 3), none⟩,
             ⟨(some 57), .bin .sub (.t 55) (.t 56), none⟩,
             ⟨(some 58), .bin .sub (.t 57) (.c (.d (.v (.int .i64 1)))), none⟩,
             ⟨(some 59), .mv (.t 0), none⟩,
             ⟨(some 60), .nc (.t 59), none⟩,
             ⟨(some 61), .fa (.t 60) 1, none⟩,
             ⟨(some 62), .ld (.t 61) 1 false, none⟩,
             ⟨(some 63), .bin .sub (.t 62) (.c (.d (.v (.int .i64 1)))), none⟩,
             ⟨(some 64), .sli true (.t 51) (some (.t 58)) (some (.t 63)) 1, none⟩,
             ⟨(some 2), .mv (.t 64), none⟩])
         (.ret))) (.skip))))
      (.reg [⟨(some 25), .mv (.t 3), none⟩,
         ⟨(some 26), .bin .add (.t 25) (.c (.d (.v (.int .i64 1)))), none⟩,
         ⟨(some 3), .mv (.t 26), none⟩]))

/-- (*spinet/spinetref08.Reader).Text -/
def c38 : AC :=
  .seq (.reg [⟨(some 2), .mv (.c (.d (.v (.string ⟨#[]⟩)))), none⟩])
  (.seq (.seq (.reg [⟨(some 4), .mv (.t 0), none⟩,
       ⟨(some 5), .nc (.t 4), none⟩,
       ⟨(some 6), .fa (.t 5) 2, none⟩,
       ⟨(some 7), .ld (.t 6) 1 false, none⟩,
       ⟨(some 8), .un .not (.t 7), none⟩])
   (.cond (.t 8) (.seq (.reg [⟨(some 3), .mv (.c (.d (.v (.int .i64 0)))), none⟩])
    (.block 0 (.loop c38l0))) (.skip)))
  (.seq (.reg [⟨(some 65), .mv (.t 0), none⟩,
      ⟨(some 66), .nc (.t 65), none⟩,
      ⟨(some 67), .fa (.t 66) 2, none⟩,
      ⟨none, .st (.t 67) (.c (.d (.v (.bool true)))) 1, none⟩])
  (.seq (.reg [⟨(some 2), .mv (.c (.d (.v (.string ⟨#[]⟩)))), none⟩])
  (.ret))))
def r38 : List RC := [.t 2]

/-- (*spinet/spinetref08.Reader).Raw -/
def c39 : AC :=
  .seq (.reg [⟨(some 4), .mv (.c (.d (.v (.string ⟨#[]⟩)))), none⟩])
  (.seq (.seq (.dreg [[], [0], [1], [2], [3], [4], [5, 4], [4, 6], [7, 4], [8], [8], [10, 8], [11, 8], [12, 8], [13, 8], [8], [15, 8], [16, 8], [17, 8], [14, 18, 8], [9, 19, 8], [8, 20]] [⟨(some 5), .mv (.t 0), none⟩,
       ⟨(some 6), .nc (.t 5), none⟩,
       ⟨(some 7), .fa (.t 6) 2, none⟩,
       ⟨(some 8), .ld (.t 7) 1 false, none⟩,
       ⟨(some 9), .mv (.t 8), none⟩,
       ⟨(some 10), .mv (.t 1), (some (9, false))⟩,
       ⟨(some 11), .bin .lss (.t 10) (.c (.d (.v (.int .i64 0)))), (some (9, false))⟩,
       ⟨(some 12), .pick (.t 9) (.c (.d (.v (.bool true)))) (.t 11), none⟩,
       ⟨(some 13), .mv (.t 12), none⟩,
       ⟨(some 14), .mv (.t 1), (some (13, false))⟩,
       ⟨(some 15), .mv (.t 0), (some (13, false))⟩,
       ⟨(some 16), .nc (.t 15), (some (13, false))⟩,
       ⟨(some 17), .fa (.t 16) 0, (some (13, false))⟩,
       ⟨(some 18), .ld (.t 17) 1 false, (some (13, false))⟩,
       ⟨(some 19), .len true (.t 18), (some (13, false))⟩,
       ⟨(some 20), .mv (.t 0), (some (13, false))⟩,
       ⟨(some 21), .nc (.t 20), (some (13, false))⟩,
       ⟨(some 22), .fa (.t 21) 1, (some (13, false))⟩,
       ⟨(some 23), .ld (.t 22) 1 false, (some (13, false))⟩,
       ⟨(some 24), .bin .sub (.t 19) (.t 23), (some (13, false))⟩,
       ⟨(some 25), .bin .gtr (.t 14) (.t 24), (some (13, false))⟩,
       ⟨(some 26), .pick (.t 13) (.c (.d (.v (.bool true)))) (.t 25), none⟩])
   (.cond (.t 26) (.seq (.reg [⟨(some 27), .mv (.t 0), none⟩,
        ⟨(some 28), .nc (.t 27), none⟩,
        ⟨(some 29), .fa (.t 28) 2, none⟩,
        ⟨none, .st (.t 29) (.c (.d (.v (.bool true)))) 1, none⟩])
    (.seq (.reg [⟨(some 4), .mv (.c (.d (.v (.string ⟨#[]⟩)))), none⟩])
    (.ret))) (.skip)))
  (.seq (.reg [⟨(some 30), .mv (.t 0), none⟩,
      ⟨(some 31), .nc (.t 30), none⟩,
      ⟨(some 32), .fa (.t 31) 1, none⟩,
      ⟨(some 33), .ld (.t 32) 1 false, none⟩,
      ⟨(some 34), .mv (.t 1), none⟩,
      ⟨(some 35), .bin .add (.t 33) (.t 34), none⟩,
      ⟨(some 36), .nc (.t 30), none⟩,
      ⟨(some 37), .fa (.t 36) 1, none⟩,
      ⟨none, .st (.t 37) (.t 35) 1, none⟩])
  (.seq (.dreg [[], [0], [1], [2], [], [4], [5], [6], [], [7, 8], [], [10], [11], [12], [3, 9, 13], [14, 0, 1, 2, 3, 4, 5, 6, 7, 8, 9, 10, 11, 12, 13, 14]] [⟨(some 38), .mv (.t 0), none⟩,
      ⟨(some 39), .nc (.t 38), none⟩,
      ⟨(some 40), .fa (.t 39) 0, none⟩,
      ⟨(some 41), .ld (.t 40) 1 false, none⟩,
      ⟨(some 42), .mv (.t 0), none⟩,
      ⟨(some 43), .nc (.t 42), none⟩,
      ⟨(some 44), .fa (.t 43) 1, none⟩,
      ⟨(some 45), .ld (.t 44) 1 false, none⟩,
      ⟨(some 46), .mv (.t 1), none⟩,
      ⟨(some 47), .bin .sub (.t 45) (.t 46), none⟩,
      ⟨(some 48), .mv (.t 0), none⟩,
      ⟨(some 49), .nc (.t 48), none⟩,
      ⟨(some 50), .fa (.t 49) 1, none⟩,
      ⟨(some 51), .ld (.t 50) 1 false, none⟩,
      ⟨(some 52), .sli true (.t 41) (some (.t 47)) (some (.t 51)) 1, none⟩,
      ⟨(some 4), .mv (.t 52), none⟩])
  (.ret))))
def r39 : List RC := [.t 4]

/-- (*spinet/spinetref08.Reader).Bad -/
def c40 : AC :=
  .seq (.reg [⟨(some 2), .mv (.c (.d (.v (.bool false)))), none⟩])
  (.seq (.reg [⟨(some 3), .mv (.t 0), none⟩,
      ⟨(some 4), .nc (.t 3), none⟩,
      ⟨(some 5), .fa (.t 4) 2, none⟩,
      ⟨(some 6), .ld (.t 5) 1 false, none⟩,
      ⟨(some 2), .mv (.t 6), none⟩])
  (.ret))
def r40 : List RC := [.t 2]

/-- (*spinet/spinetref08.Reader).End -/
def c41 : AC :=
  .seq (.reg [⟨(some 2), .mv (.c (.d (.v (.bool false)))), none⟩])
  (.seq (.dreg [[], [0], [1], [2], [3], [4], [5], [6, 5], [7, 5], [8, 5], [5], [10, 5], [11, 5], [12, 5], [13, 5], [9, 14, 5], [5, 15], [16, 5, 0, 1, 2, 3, 4, 5, 6, 7, 8, 9, 10, 11, 12, 13, 14, 15, 16]] [⟨(some 3), .mv (.t 0), none⟩,
      ⟨(some 4), .nc (.t 3), none⟩,
      ⟨(some 5), .fa (.t 4) 2, none⟩,
      ⟨(some 6), .ld (.t 5) 1 false, none⟩,
      ⟨(some 7), .un .not (.t 6), none⟩,
      ⟨(some 8), .mv (.t 7), none⟩,
      ⟨(some 9), .mv (.t 0), (some (8, true))⟩,
      ⟨(some 10), .nc (.t 9), (some (8, true))⟩,
      ⟨(some 11), .fa (.t 10) 1, (some (8, true))⟩,
      ⟨(some 12), .ld (.t 11) 1 false, (some (8, true))⟩,
      ⟨(some 13), .mv (.t 0), (some (8, true))⟩,
      ⟨(some 14), .nc (.t 13), (some (8, true))⟩,
      ⟨(some 15), .fa (.t 14) 0, (some (8, true))⟩,
      ⟨(some 16), .ld (.t 15) 1 false, (some (8, true))⟩,
      ⟨(some 17), .len true (.t 16), (some (8, true))⟩,
      ⟨(some 18), .bin .eql (.t 12) (.t 17), (some (8, true))⟩,
      ⟨(some 19), .pick (.t 8) (.t 18) (.c (.d (.v (.bool false)))), none⟩,
      ⟨(some 2), .mv (.t 19), none⟩])
  (.ret))
def r41 : List RC := [.t 2]

/-- (*spinet/rider.Reader).take -/
def c42 : AC :=
  .seq (.reg [⟨(some 4), .mv (.c (.d (.v (.string ⟨#[]⟩)))), none⟩,
      ⟨(some 5), .mv (.c (.d (.v (.bool false)))), none⟩])
  (.seq (.seq (.reg [⟨(some 6), .mv (.t 0), none⟩,
       ⟨(some 7), .eqp false (.t 6) (.c .nilp), none⟩,
       ⟨(some 8), .mv (.t 7), none⟩,
       ⟨(some 9), .mv (.t 0), (some (8, false))⟩,
       ⟨(some 10), .nc (.t 9), (some (8, false))⟩,
       ⟨(some 11), .fa (.t 10) 2, (some (8, false))⟩,
       ⟨(some 12), .ld (.t 11) 1 false, (some (8, false))⟩,
       ⟨(some 13), .pick (.t 8) (.c (.d (.v (.bool true)))) (.t 12), none⟩])
   (.cond (.t 13) (.seq (.reg [⟨(some 4), .mv (.c (.d (.v (.string ⟨#[]⟩)))), none⟩,
        ⟨(some 5), .mv (.c (.d (.v (.bool false)))), none⟩])
    (.ret)) (.skip)))
  (.seq (.seq (.dreg [[], [0], [1], [2], [2], [4, 2], [5, 2], [6, 2], [7, 2], [2], [9, 2], [10, 2], [11, 2], [8, 12, 2], [3, 13, 2], [2, 14]] [⟨(some 14), .mv (.t 1), none⟩,
       ⟨(some 15), .bin .lss (.t 14) (.c (.d (.v (.int .i64 0)))), none⟩,
       ⟨(some 16), .mv (.t 15), none⟩,
       ⟨(some 17), .mv (.t 1), (some (16, false))⟩,
       ⟨(some 18), .mv (.t 0), (some (16, false))⟩,
       ⟨(some 19), .nc (.t 18), (some (16, false))⟩,
       ⟨(some 20), .fa (.t 19) 0, (some (16, false))⟩,
       ⟨(some 21), .ld (.t 20) 1 false, (some (16, false))⟩,
       ⟨(some 22), .len true (.t 21), (some (16, false))⟩,
       ⟨(some 23), .mv (.t 0), (some (16, false))⟩,
       ⟨(some 24), .nc (.t 23), (some (16, false))⟩,
       ⟨(some 25), .fa (.t 24) 1, (some (16, false))⟩,
       ⟨(some 26), .ld (.t 25) 1 false, (some (16, false))⟩,
       ⟨(some 27), .bin .sub (.t 22) (.t 26), (some (16, false))⟩,
       ⟨(some 28), .bin .gtr (.t 17) (.t 27), (some (16, false))⟩,
       ⟨(some 29), .pick (.t 16) (.c (.d (.v (.bool true)))) (.t 28), none⟩])
   (.cond (.t 29) (.seq (.reg [⟨(some 30), .mv (.t 0), none⟩,
        ⟨(some 31), .nc (.t 30), none⟩,
        ⟨(some 32), .fa (.t 31) 2, none⟩,
        ⟨none, .st (.t 32) (.c (.d (.v (.bool true)))) 1, none⟩])
    (.seq (.reg [⟨(some 4), .mv (.c (.d (.v (.string ⟨#[]⟩)))), none⟩,
        ⟨(some 5), .mv (.c (.d (.v (.bool false)))), none⟩])
    (.ret))) (.skip)))
  (.seq (.reg [⟨(some 33), .mv (.t 0), none⟩,
      ⟨(some 34), .nc (.t 33), none⟩,
      ⟨(some 35), .fa (.t 34) 1, none⟩,
      ⟨(some 36), .ld (.t 35) 1 false, none⟩,
      ⟨(some 37), .mv (.t 1), none⟩,
      ⟨(some 38), .bin .add (.t 36) (.t 37), none⟩,
      ⟨(some 39), .nc (.t 33), none⟩,
      ⟨(some 40), .fa (.t 39) 1, none⟩,
      ⟨none, .st (.t 40) (.t 38) 1, none⟩])
  (.seq (.dreg [[], [0], [1], [2], [], [4], [5], [6], [], [7, 8], [], [10], [11], [12], [3, 9, 13], [14, 0, 1, 2, 3, 4, 5, 6, 7, 8, 9, 10, 11, 12, 13, 14], [15, 0, 1, 2, 3, 4, 5, 6, 7, 8, 9, 10, 11, 12, 13, 14, 15]] [⟨(some 41), .mv (.t 0), none⟩,
      ⟨(some 42), .nc (.t 41), none⟩,
      ⟨(some 43), .fa (.t 42) 0, none⟩,
      ⟨(some 44), .ld (.t 43) 1 false, none⟩,
      ⟨(some 45), .mv (.t 0), none⟩,
      ⟨(some 46), .nc (.t 45), none⟩,
      ⟨(some 47), .fa (.t 46) 1, none⟩,
      ⟨(some 48), .ld (.t 47) 1 false, none⟩,
      ⟨(some 49), .mv (.t 1), none⟩,
      ⟨(some 50), .bin .sub (.t 48) (.t 49), none⟩,
      ⟨(some 51), .mv (.t 0), none⟩,
      ⟨(some 52), .nc (.t 51), none⟩,
      ⟨(some 53), .fa (.t 52) 1, none⟩,
      ⟨(some 54), .ld (.t 53) 1 false, none⟩,
      ⟨(some 55), .sli true (.t 44) (some (.t 50)) (some (.t 54)) 1, none⟩,
      ⟨(some 4), .mv (.t 55), none⟩,
      ⟨(some 5), .mv (.c (.d (.v (.bool true)))), none⟩])
  (.ret)))))
def r42 : List RC := [.t 4, .t 5]

/-- strings.IndexByte -/
def c43 : AC :=
  .seq (.reg [⟨(some 4), .mv (.c (.d (.v (.int .i64 0)))), none⟩])
  (.seq (.reg [⟨(some 5), .mv (.t 0), none⟩,
      ⟨(some 6), .mv (.t 1), none⟩,
      ⟨(some 7), .call 46 [(.t 5), (.t 6)], none⟩,
      ⟨(some 4), .mv (.t 7), none⟩])
  (.ret))
def r43 : List RC := [.t 4]

/-- spinet/spinetref01.Fits -/
def c44 : AC :=
  .seq (.reg [⟨(some 4), .mv (.c (.d (.v (.bool false)))), none⟩])
  (.seq (.seq (.reg [⟨(some 6), .mv (.t 1), none⟩,
       ⟨(some 7), .bin .lss (.t 6) (.c (.d (.v (.int .i64 1)))), none⟩,
       ⟨(some 8), .mv (.t 7), none⟩,
       ⟨(some 9), .mv (.t 1), (some (8, false))⟩,
       ⟨(some 10), .bin .gtr (.t 9) (.c (.d (.v (.int .i64 32)))), (some (8, false))⟩,
       ⟨(some 11), .pick (.t 8) (.c (.d (.v (.bool true)))) (.t 10), none⟩])
   (.cond (.t 11) (.seq (.reg [⟨(some 4), .mv (.c (.d (.v (.bool false)))), none⟩])
    (.ret)) (.skip)))
  (.seq (.reg [⟨(some 12), .mv (.t 1), none⟩,
      ⟨(some 13), .cvi .u32 (.t 12), none⟩,
      ⟨(some 14), .call 47 [(.t 13)], none⟩,
      ⟨(some 15), .cvi .i64 (.t 14), none⟩,
      ⟨(some 16), .bin .quo (.t 15) (.c (.d (.v (.int .i64 2)))), none⟩,
      ⟨(some 5), .mv (.t 16), none⟩])
  (.seq (.reg [⟨(some 17), .mv (.t 0), none⟩,
      ⟨(some 18), .mv (.t 5), none⟩,
      ⟨(some 19), .un .neg (.t 18), none⟩,
      ⟨(some 20), .bin .geq (.t 17) (.t 19), none⟩,
      ⟨(some 21), .mv (.t 20), none⟩,
      ⟨(some 22), .mv (.t 0), (some (21, true))⟩,
      ⟨(some 23), .mv (.t 5), (some (21, true))⟩,
      ⟨(some 24), .bin .lss (.t 22) (.t 23), (some (21, true))⟩,
      ⟨(some 25), .pick (.t 21) (.t 24) (.c (.d (.v (.bool false)))), none⟩,
      ⟨(some 4), .mv (.t 25), none⟩])
  (.ret))))
def r44 : List RC := [.t 4]

/-- spinet/spinetref01.Get -/
def c45 : AC :=
  .seq (.reg [⟨(some 6), .mv (.c (.d (.v (.int .u32 0)))), none⟩])
  (.seq (.seq (.reg [⟨(some 7), .mv (.t 1), none⟩,
       ⟨(some 8), .mv (.t 2), none⟩,
       ⟨(some 9), .call 48 [(.t 7), (.t 8)], none⟩,
       ⟨(some 10), .un .not (.t 9), none⟩])
   (.cond (.t 10) (.seq (.reg [⟨(some 6), .mv (.c (.d (.v (.int .u32 0)))), none⟩])
    (.ret)) (.skip)))
  (.seq (.dreg [[], [0], [], [2], [3], [1, 4], [], [6], [7, 4], [5, 8], [9], [10, 8, 0, 1, 2, 3, 4, 5, 6, 7, 8, 9, 10]] [⟨(some 11), .mv (.t 0), none⟩,
      ⟨(some 12), .cvi .u64 (.t 11), none⟩,
      ⟨(some 13), .mv (.t 1), none⟩,
      ⟨(some 14), .cvi .u32 (.t 13), none⟩,
      ⟨(some 15), .call 47 [(.t 14)], none⟩,
      ⟨(some 16), .bin .quo (.t 12) (.t 15), none⟩,
      ⟨(some 17), .mv (.t 2), none⟩,
      ⟨(some 18), .cvi .u32 (.t 17), none⟩,
      ⟨(some 19), .call 47 [(.t 18)], none⟩,
      ⟨(some 20), .bin .rem (.t 16) (.t 19), none⟩,
      ⟨(some 21), .cvi .u32 (.t 20), none⟩,
      ⟨(some 6), .mv (.t 21), none⟩])
  (.ret)))
def r45 : List RC := [.t 6]

/-- internal/stringslite.IndexByte -/
def c46 : AC :=
  .seq (.reg [⟨(some 4), .mv (.c (.d (.v (.int .i64 0)))), none⟩])
  (.seq (.reg [⟨(some 5), .mv (.t 0), none⟩,
      ⟨(some 6), .mv (.t 1), none⟩,
      ⟨(some 7), .ixb 49 (.t 5) (.t 6), none⟩,
      ⟨(some 4), .mv (.t 7), none⟩])
  (.ret))
def r46 : List RC := [.t 4]

def c47l0 : AC :=
  .seq (.seq (.reg [⟨(some 5), .mv (.t 4), none⟩,
          ⟨(some 6), .mv (.t 0), none⟩,
          ⟨(some 7), .bin .lss (.t 5) (.t 6), none⟩])
      (.cond (.t 7) (.skip) (.exit 0)))
     (.seq (.block 1 (.reg [⟨(some 10), .mv (.t 3), none⟩,
          ⟨(some 11), .bin .mul (.t 10) (.c (.d (.v (.int .u64 2)))), none⟩,
          ⟨(some 3), .mv (.t 11), none⟩]))
     (.reg [⟨(some 8), .mv (.t 4), none⟩,
        ⟨(some 9), .bin .add (.t 8) (.c (.d (.v (.int .u32 1)))), none⟩,
        ⟨(some 4), .mv (.t 9), none⟩]))

/-- spinet/spinetref01.pow -/
def c47 : AC :=
  .seq (.reg [⟨(some 2), .mv (.c (.d (.v (.int .u64 0)))), none⟩])
  (.seq (.reg [⟨(some 3), .mv (.c (.d (.v (.int .u64 1)))), none⟩])
  (.seq (.seq (.reg [⟨(some 4), .mv (.c (.d (.v (.int .u32 0)))), none⟩])
   (.block 0 (.loop c47l0)))
  (.seq (.reg [⟨(some 12), .mv (.t 3), none⟩,
      ⟨(some 2), .mv (.t 12), none⟩])
  (.ret))))
def r47 : List RC := [.t 2]

/-- spinet/spinetref01.may -/
def c48 : AC :=
  .seq (.reg [⟨(some 4), .mv (.c (.d (.v (.bool false)))), none⟩])
  (.seq (.reg [⟨(some 5), .mv (.t 0), none⟩,
      ⟨(some 6), .bin .geq (.t 5) (.c (.d (.v (.int .i64 0)))), none⟩,
      ⟨(some 7), .mv (.t 6), none⟩,
      ⟨(some 8), .mv (.t 1), (some (7, true))⟩,
      ⟨(some 9), .bin .geq (.t 8) (.c (.d (.v (.int .i64 1)))), (some (7, true))⟩,
      ⟨(some 10), .pick (.t 7) (.t 9) (.c (.d (.v (.bool false)))), none⟩,
      ⟨(some 11), .mv (.t 10), none⟩,
      ⟨(some 12), .mv (.t 0), (some (11, true))⟩,
      ⟨(some 13), .bin .leq (.t 12) (.c (.d (.v (.int .i64 31)))), (some (11, true))⟩,
      ⟨(some 14), .pick (.t 11) (.t 13) (.c (.d (.v (.bool false)))), none⟩,
      ⟨(some 15), .mv (.t 14), none⟩,
      ⟨(some 16), .mv (.t 1), (some (15, true))⟩,
      ⟨(some 17), .mv (.t 0), (some (15, true))⟩,
      ⟨(some 18), .bin .sub (.c (.d (.v (.int .i64 32)))) (.t 17), (some (15, true))⟩,
      ⟨(some 19), .bin .leq (.t 16) (.t 18), (some (15, true))⟩,
      ⟨(some 20), .pick (.t 15) (.t 19) (.c (.d (.v (.bool false)))), none⟩,
      ⟨(some 4), .mv (.t 20), none⟩])
  (.ret))
def r48 : List RC := [.t 4]

theorem cc3 : Try.f3.body.bind (comp Try.prog (hh 3)) = some c3 := by kernel_rfl
theorem rr3 : resC Try.prog Try.f3 = some r3 := by kernel_rfl
theorem cc4 : Try.f4.body.bind (comp Try.prog (hh 4)) = some c4 := by kernel_rfl
theorem rr4 : resC Try.prog Try.f4 = some r4 := by kernel_rfl
theorem cc5 : Try.f5.body.bind (comp Try.prog (hh 5)) = some c5 := by kernel_rfl
theorem rr5 : resC Try.prog Try.f5 = some r5 := by kernel_rfl
theorem cc6 : Try.f6.body.bind (comp Try.prog (hh 6)) = some c6 := by kernel_rfl
theorem rr6 : resC Try.prog Try.f6 = some r6 := by kernel_rfl
theorem cc7 : Try.f7.body.bind (comp Try.prog (hh 7)) = some c7 := by kernel_rfl
theorem rr7 : resC Try.prog Try.f7 = some r7 := by kernel_rfl
theorem cc8 : Try.f8.body.bind (comp Try.prog (hh 8)) = some c8 := by kernel_rfl
theorem rr8 : resC Try.prog Try.f8 = some r8 := by kernel_rfl
theorem cc9 : Try.f9.body.bind (comp Try.prog (hh 9)) = some c9 := by kernel_rfl
theorem rr9 : resC Try.prog Try.f9 = some r9 := by kernel_rfl
theorem cc10 : Try.f10.body.bind (comp Try.prog (hh 10)) = some c10 := by kernel_rfl
theorem rr10 : resC Try.prog Try.f10 = some r10 := by kernel_rfl
theorem cc11 : Try.f11.body.bind (comp Try.prog (hh 11)) = some c11 := by kernel_rfl
theorem rr11 : resC Try.prog Try.f11 = some r11 := by kernel_rfl
theorem cc12 : Try.f12.body.bind (comp Try.prog (hh 12)) = some c12 := by kernel_rfl
theorem rr12 : resC Try.prog Try.f12 = some r12 := by kernel_rfl
theorem cc13 : Try.f13.body.bind (comp Try.prog (hh 13)) = some c13 := by kernel_rfl
theorem rr13 : resC Try.prog Try.f13 = some r13 := by kernel_rfl
theorem cc14 : Try.f14.body.bind (comp Try.prog (hh 14)) = some c14 := by kernel_rfl
theorem rr14 : resC Try.prog Try.f14 = some r14 := by kernel_rfl
theorem cc15 : Try.f15.body.bind (comp Try.prog (hh 15)) = some c15 := by kernel_rfl
theorem rr15 : resC Try.prog Try.f15 = some r15 := by kernel_rfl
theorem cc16 : Try.f16.body.bind (comp Try.prog (hh 16)) = some c16 := by kernel_rfl
theorem rr16 : resC Try.prog Try.f16 = some r16 := by kernel_rfl
theorem cc17 : Try.f17.body.bind (comp Try.prog (hh 17)) = some c17 := by kernel_rfl
theorem rr17 : resC Try.prog Try.f17 = some r17 := by kernel_rfl
theorem cc18 : Try.f18.body.bind (comp Try.prog (hh 18)) = some c18 := by kernel_rfl
theorem rr18 : resC Try.prog Try.f18 = some r18 := by kernel_rfl
theorem cc19 : Try.f19.body.bind (comp Try.prog (hh 19)) = some c19 := by kernel_rfl
theorem rr19 : resC Try.prog Try.f19 = some r19 := by kernel_rfl
theorem cc20 : Try.f20.body.bind (comp Try.prog (hh 20)) = some c20 := by kernel_rfl
theorem rr20 : resC Try.prog Try.f20 = some r20 := by kernel_rfl
theorem cc21 : Try.f21.body.bind (comp Try.prog (hh 21)) = some c21 := by kernel_rfl
theorem rr21 : resC Try.prog Try.f21 = some r21 := by kernel_rfl
theorem cc22 : Try.f22.body.bind (comp Try.prog (hh 22)) = some c22 := by kernel_rfl
theorem rr22 : resC Try.prog Try.f22 = some r22 := by kernel_rfl
theorem cc23 : Try.f23.body.bind (comp Try.prog (hh 23)) = some c23 := by kernel_rfl
theorem rr23 : resC Try.prog Try.f23 = some r23 := by kernel_rfl
theorem cc24 : Try.f24.body.bind (comp Try.prog (hh 24)) = some c24 := by kernel_rfl
theorem rr24 : resC Try.prog Try.f24 = some r24 := by kernel_rfl
theorem cc25 : Try.f25.body.bind (comp Try.prog (hh 25)) = some c25 := by kernel_rfl
theorem rr25 : resC Try.prog Try.f25 = some r25 := by kernel_rfl
theorem cc26 : Try.f26.body.bind (comp Try.prog (hh 26)) = some c26 := by kernel_rfl
theorem rr26 : resC Try.prog Try.f26 = some r26 := by kernel_rfl
theorem cc27 : Try.f27.body.bind (comp Try.prog (hh 27)) = some c27 := by kernel_rfl
theorem rr27 : resC Try.prog Try.f27 = some r27 := by kernel_rfl
theorem cc28 : Try.f28.body.bind (comp Try.prog (hh 28)) = some c28 := by kernel_rfl
theorem rr28 : resC Try.prog Try.f28 = some r28 := by kernel_rfl
theorem cc29 : Try.f29.body.bind (comp Try.prog (hh 29)) = some c29 := by kernel_rfl
theorem rr29 : resC Try.prog Try.f29 = some r29 := by kernel_rfl
theorem cc30 : Try.f30.body.bind (comp Try.prog (hh 30)) = some c30 := by kernel_rfl
theorem rr30 : resC Try.prog Try.f30 = some r30 := by kernel_rfl
theorem cc31 : Try.f31.body.bind (comp Try.prog (hh 31)) = some c31 := by kernel_rfl
theorem rr31 : resC Try.prog Try.f31 = some r31 := by kernel_rfl
theorem cc32 : Try.f32.body.bind (comp Try.prog (hh 32)) = some c32 := by kernel_rfl
theorem rr32 : resC Try.prog Try.f32 = some r32 := by kernel_rfl
theorem cc33 : Try.f33.body.bind (comp Try.prog (hh 33)) = some c33 := by kernel_rfl
theorem rr33 : resC Try.prog Try.f33 = some r33 := by kernel_rfl
theorem cc34 : Try.f34.body.bind (comp Try.prog (hh 34)) = some c34 := by kernel_rfl
theorem rr34 : resC Try.prog Try.f34 = some r34 := by kernel_rfl
theorem cc35 : Try.f35.body.bind (comp Try.prog (hh 35)) = some c35 := by kernel_rfl
theorem rr35 : resC Try.prog Try.f35 = some r35 := by kernel_rfl
theorem cc36 : Try.f36.body.bind (comp Try.prog (hh 36)) = some c36 := by kernel_rfl
theorem rr36 : resC Try.prog Try.f36 = some r36 := by kernel_rfl
theorem cc37 : Try.f37.body.bind (comp Try.prog (hh 37)) = some c37 := by kernel_rfl
theorem rr37 : resC Try.prog Try.f37 = some r37 := by kernel_rfl
theorem cc38 : Try.f38.body.bind (comp Try.prog (hh 38)) = some c38 := by kernel_rfl
theorem rr38 : resC Try.prog Try.f38 = some r38 := by kernel_rfl
theorem cc39 : Try.f39.body.bind (comp Try.prog (hh 39)) = some c39 := by kernel_rfl
theorem rr39 : resC Try.prog Try.f39 = some r39 := by kernel_rfl
theorem cc40 : Try.f40.body.bind (comp Try.prog (hh 40)) = some c40 := by kernel_rfl
theorem rr40 : resC Try.prog Try.f40 = some r40 := by kernel_rfl
theorem cc41 : Try.f41.body.bind (comp Try.prog (hh 41)) = some c41 := by kernel_rfl
theorem rr41 : resC Try.prog Try.f41 = some r41 := by kernel_rfl
theorem cc42 : Try.f42.body.bind (comp Try.prog (hh 42)) = some c42 := by kernel_rfl
theorem rr42 : resC Try.prog Try.f42 = some r42 := by kernel_rfl
theorem cc43 : Try.f43.body.bind (comp Try.prog (hh 43)) = some c43 := by kernel_rfl
theorem rr43 : resC Try.prog Try.f43 = some r43 := by kernel_rfl
theorem cc44 : Try.f44.body.bind (comp Try.prog (hh 44)) = some c44 := by kernel_rfl
theorem rr44 : resC Try.prog Try.f44 = some r44 := by kernel_rfl
theorem cc45 : Try.f45.body.bind (comp Try.prog (hh 45)) = some c45 := by kernel_rfl
theorem rr45 : resC Try.prog Try.f45 = some r45 := by kernel_rfl
theorem cc46 : Try.f46.body.bind (comp Try.prog (hh 46)) = some c46 := by kernel_rfl
theorem rr46 : resC Try.prog Try.f46 = some r46 := by kernel_rfl
theorem cc47 : Try.f47.body.bind (comp Try.prog (hh 47)) = some c47 := by kernel_rfl
theorem rr47 : resC Try.prog Try.f47 = some r47 := by kernel_rfl
theorem cc48 : Try.f48.body.bind (comp Try.prog (hh 48)) = some c48 := by kernel_rfl
theorem rr48 : resC Try.prog Try.f48 = some r48 := by kernel_rfl
end Go.Proofs.Ytipjjcaflcpplaa
