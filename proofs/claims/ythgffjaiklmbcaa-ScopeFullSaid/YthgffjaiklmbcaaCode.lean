/- The functions' code in the small language. Printed by program (wip/tools). -/
import Derived.Test.YthgffjaiklmbcaaWalk2
import Derived.Test.YthgffjaiklmbcaaProg
import Derived.KernelRfl
namespace Go.Proofs.Ythgffjaiklmbcaa
open Go.RowKit
def hh : Nat → Nat → Option Md := fun fn slot => if (fn, slot) ∈ [(5, 6), (5, 7), (24, 5)] then some .gr else if (fn, slot) ∈ [(12, 17), (12, 18), (14, 1), (14, 2), (15, 17), (15, 18), (15, 23), (15, 24)] then some .hp else if (fn, slot) ∈ [(23, 9)] then some .im else none

def c3l0 : AC :=
  .seq (.seq (.reg [⟨(some 16), .mv (.t 5), none⟩,
          ⟨(some 17), .mv (.t 4), none⟩,
          ⟨(some 18), .bin .lss (.t 16) (.t 17), none⟩])
      (.cond (.t 18) (.skip) (.exit 0)))
     (.seq (.block 1 (.seq (.seq (.reg [⟨(some 21), .mv (.t 3), none⟩,
            ⟨(some 22), .mv (.t 5), none⟩,
            ⟨(some 23), .call 9 [(.t 21), (.c (.d (.v (.string ⟨#[120]⟩)))), (.t 22)], none⟩,
            ⟨(some 24), .bin .neq (.t 23) (.c (.d (.v (.int .i64 0)))), none⟩])
        (.cond (.t 24) (.seq (.reg [⟨(some 25), .mv (.t 3), none⟩,
             ⟨(some 26), .call 10 [(.t 25)], none⟩,
             ⟨(some 27), .bin .eql (.t 26) (.c (.d (.v (.int .i64 63)))), none⟩,
             ⟨(some 28), .mv (.t 27), none⟩,
             ⟨(some 29), .mv (.t 5), (some (28, true))⟩,
             ⟨(some 30), .bin .geq (.t 29) (.c (.d (.v (.int .i64 64)))), (some (28, true))⟩,
             ⟨(some 31), .pick (.t 28) (.t 30) (.c (.d (.v (.bool false)))), none⟩,
             ⟨(some 32), .mv (.t 31), none⟩,
             ⟨(some 33), .call 11 [], (some (32, true))⟩,
             ⟨(some 34), .pick (.t 32) (.t 33) (.c (.d (.v (.bool false)))), none⟩,
             ⟨(some 2), .mv (.t 34), none⟩])
         (.ret)) (.skip)))
       (.seq (.reg [⟨(some 35), .mv (.t 3), none⟩,
           ⟨(some 36), .call 12 [(.t 35)], none⟩,
           ⟨(some 6), .mv (.t 36), none⟩])
       (.seq (.seq (.reg [⟨(some 37), .mv (.t 6), none⟩,
            ⟨(some 38), .bin .eql (.t 37) (.c (.d (.v (.int .i64 0)))), none⟩,
            ⟨(some 39), .mv (.t 5), none⟩,
            ⟨(some 40), .bin .lss (.t 39) (.c (.d (.v (.int .i64 63)))), none⟩,
            ⟨(some 41), .eqs true (.t 38) (.t 40), none⟩,
            ⟨(some 42), .mv (.t 41), none⟩,
            ⟨(some 43), .mv (.t 6), (some (42, false))⟩,
            ⟨(some 44), .bin .neq (.t 43) (.c (.d (.v (.int .i64 0)))), (some (42, false))⟩,
            ⟨(some 45), .mv (.t 44), (some (42, false))⟩,
            ⟨(some 46), .mv (.t 6), (some (45, true))⟩,
            ⟨(some 47), .bin .neq (.t 46) (.c (.d (.v (.int .i64 4)))), (some (45, true))⟩,
            ⟨(some 48), .pick (.t 45) (.t 47) (.c (.d (.v (.bool false)))), (some (42, false))⟩,
            ⟨(some 49), .pick (.t 42) (.c (.d (.v (.bool true)))) (.t 48), none⟩])
        (.cond (.t 49) (.seq (.reg [⟨(some 2), .mv (.c (.d (.v (.bool false)))), none⟩])
         (.ret)) (.skip)))
       (.seq (.reg [⟨(some 51), .mv (.t 3), none⟩,
           ⟨(some 52), .call 13 [(.t 51), (.c (.d (.v (.string ⟨#[120]⟩))))], none⟩,
           ⟨(some 50), .mv (.t 52), none⟩,
           ⟨(some 53), .ext (.t 50) 0, none⟩,
           ⟨(some 54), .ext (.t 50) 1, none⟩,
           ⟨(some 55), .ext (.t 50) 2, none⟩,
           ⟨(some 7), .mv (.t 53), none⟩,
           ⟨(some 8), .mv (.t 54), none⟩,
           ⟨(some 9), .mv (.t 55), none⟩])
       (.seq (.reg [⟨(some 56), .mv (.t 9), none⟩,
           ⟨(some 57), .un .not (.t 56), none⟩,
           ⟨(some 58), .mv (.t 57), none⟩,
           ⟨(some 59), .mv (.t 7), (some (58, false))⟩,
           ⟨(some 60), .mv (.t 5), (some (58, false))⟩,
           ⟨(some 61), .bin .neq (.t 59) (.t 60), (some (58, false))⟩,
           ⟨(some 62), .pick (.t 58) (.c (.d (.v (.bool true)))) (.t 61), none⟩,
           ⟨(some 63), .mv (.t 62), none⟩,
           ⟨(some 64), .mv (.t 8), (some (63, false))⟩,
           ⟨(some 65), .mv (.t 5), (some (63, false))⟩,
           ⟨(some 66), .bin .neq (.t 64) (.t 65), (some (63, false))⟩,
           ⟨(some 67), .pick (.t 63) (.c (.d (.v (.bool true)))) (.t 66), none⟩])
       (.cond (.t 67) (.seq (.reg [⟨(some 2), .mv (.c (.d (.v (.bool false)))), none⟩])
        (.ret)) (.skip))))))))
     (.reg [⟨(some 19), .mv (.t 5), none⟩,
        ⟨(some 20), .bin .add (.t 19) (.c (.d (.v (.int .i64 1)))), none⟩,
        ⟨(some 5), .mv (.t 20), none⟩]))

/-- spinet/spinetlaw15.ScopeDeep -/
def c3 : AC :=
  .seq (.reg [⟨(some 2), .mv (.c (.d (.v (.bool false)))), none⟩])
  (.seq (.reg [⟨(some 10), .call 8 [], none⟩,
      ⟨(some 3), .mv (.t 10), none⟩])
  (.seq (.reg [⟨(some 11), .mv (.t 0), none⟩,
      ⟨(some 12), .cvi .i64 (.t 11), none⟩,
      ⟨(some 13), .bin .rem (.t 12) (.c (.d (.v (.int .i64 70)))), none⟩,
      ⟨(some 4), .mv (.t 13), none⟩])
  (.seq (.seq (.reg [⟨(some 14), .mv (.t 3), none⟩,
       ⟨(some 15), .eqp false (.t 14) (.c .nilp), none⟩])
   (.cond (.t 15) (.seq (.reg [⟨(some 2), .mv (.c (.d (.v (.bool false)))), none⟩])
    (.ret)) (.skip)))
  (.seq (.seq (.reg [⟨(some 5), .mv (.c (.d (.v (.int .i64 0)))), none⟩])
   (.block 0 (.loop c3l0)))
  (.seq (.reg [⟨(some 68), .mv (.t 3), none⟩,
      ⟨(some 69), .call 10 [(.t 68)], none⟩,
      ⟨(some 70), .mv (.t 4), none⟩,
      ⟨(some 71), .mn [(.t 70), (.c (.d (.v (.int .i64 63))))], none⟩,
      ⟨(some 72), .bin .eql (.t 69) (.t 71), none⟩,
      ⟨(some 73), .mv (.t 72), none⟩,
      ⟨(some 74), .call 11 [], (some (73, true))⟩,
      ⟨(some 75), .pick (.t 73) (.t 74) (.c (.d (.v (.bool false)))), none⟩,
      ⟨(some 2), .mv (.t 75), none⟩])
  (.ret))))))
def r3 : List RC := [.t 2]

def c4l0 : AC :=
  .seq (.seq (.reg [⟨(some 69), .mv (.t 7), none⟩,
                    ⟨(some 70), .fa (.t 6) 2, none⟩,
                    ⟨(some 71), .ld (.t 70) 1 false, none⟩,
                    ⟨(some 72), .bin .lss (.t 69) (.t 71), none⟩,
                    ⟨(some 73), .mv (.t 72), none⟩,
                    ⟨(some 74), .mv (.t 7), (some (73, true))⟩,
                    ⟨(some 75), .bin .lss (.t 74) (.c (.d (.v (.int .i64 260)))), (some (73, true))⟩,
                    ⟨(some 76), .pick (.t 73) (.t 75) (.c (.d (.v (.bool false)))), none⟩])
                (.cond (.t 76) (.skip) (.exit 3)))
               (.seq (.block 4 (.seq (.reg [⟨(some 79), .mv (.t 3), none⟩,
                     ⟨(some 80), .mv (.t 7), none⟩,
                     ⟨(some 81), .call 19 [(.t 80)], none⟩,
                     ⟨(some 82), .mv (.t 7), none⟩,
                     ⟨(some 83), .call 9 [(.t 79), (.t 81), (.t 82)], none⟩,
                     ⟨(some 84), .mv (.t 4), none⟩,
                     ⟨(some 85), .mv (.t 7), none⟩,
                     ⟨(some 86), .call 19 [(.t 85)], none⟩,
                     ⟨(some 87), .mv (.t 7), none⟩,
                     ⟨(some 88), .call 18 [(.t 84), (.t 86), (.t 87)], none⟩,
                     ⟨(some 89), .bin .neq (.t 83) (.t 88), none⟩])
                 (.cond (.t 89) (.seq (.reg [⟨(some 2), .mv (.c (.d (.v (.bool false)))), none⟩])
                  (.ret)) (.skip))))
               (.reg [⟨(some 77), .mv (.t 7), none⟩,
                  ⟨(some 78), .bin .add (.t 77) (.c (.d (.v (.int .i64 1)))), none⟩,
                  ⟨(some 7), .mv (.t 78), none⟩]))

def c4l1 : AC :=
  .seq (.seq (.reg [⟨(some 18), .mv (.t 5), none⟩,
          ⟨(some 19), .mv (.t 0), none⟩,
          ⟨(some 20), .len false (.t 19), none⟩,
          ⟨(some 21), .bin .lss (.t 18) (.t 20), none⟩,
          ⟨(some 22), .mv (.t 21), none⟩,
          ⟨(some 23), .mv (.t 5), (some (22, true))⟩,
          ⟨(some 24), .bin .lss (.t 23) (.c (.d (.v (.int .i64 200)))), (some (22, true))⟩,
          ⟨(some 25), .pick (.t 22) (.t 24) (.c (.d (.v (.bool false)))), none⟩])
      (.cond (.t 25) (.skip) (.exit 0)))
     (.seq (.block 1 (.seq (.reg [⟨(some 28), .mv (.t 0), none⟩,
           ⟨(some 29), .mv (.t 5), none⟩,
           ⟨(some 30), .ia (.t 28) (.t 29) 3, none⟩,
           ⟨(some 31), .ld (.t 30) 3 true, none⟩,
           ⟨(some 6), .al [(.d (.v (.int .i64 0))), (.d (.v (.string ⟨#[]⟩))), (.d (.v (.int .i64 0)))], none⟩,
           ⟨none, .st (.t 6) (.t 31) 3, none⟩])
       (.seq (.seq (.reg [⟨(some 32), .fa (.t 6) 1, none⟩,
            ⟨(some 33), .ld (.t 32) 1 false, none⟩,
            ⟨(some 34), .len true (.t 33), none⟩,
            ⟨(some 35), .bin .gtr (.t 34) (.c (.d (.v (.int .i64 5000)))), none⟩])
        (.cond (.t 35) (.exit 1) (.skip)))
       (.seq (.seq (.reg [⟨(some 36), .fa (.t 6) 0, none⟩,
            ⟨(some 37), .ld (.t 36) 1 false, none⟩])
        (.block 2 (.seq (.reg [⟨(some 39), .bin .eql (.t 37) (.c (.d (.v (.int .i64 0)))), none⟩,
             ⟨(some 38), .mv (.t 39), none⟩])
         (.cond (.t 38) (.seq (.reg [⟨(some 40), .mv (.t 3), none⟩,
              ⟨(some 41), .call 12 [(.t 40)], none⟩,
              ⟨(some 42), .mv (.t 4), none⟩,
              ⟨(some 43), .call 15 [(.t 42)], none⟩,
              ⟨(some 44), .bin .neq (.t 41) (.t 43), none⟩])
          (.cond (.t 44) (.seq (.reg [⟨(some 2), .mv (.c (.d (.v (.bool false)))), none⟩])
           (.ret)) (.skip))) (.seq (.reg [⟨(some 46), .bin .eql (.t 37) (.c (.d (.v (.int .i64 1)))), none⟩,
              ⟨(some 45), .mv (.t 46), none⟩])
          (.cond (.t 45) (.seq (.reg [⟨(some 47), .mv (.t 3), none⟩,
               ⟨(some 48), .call 16 [(.t 47)], none⟩,
               ⟨(some 49), .mv (.t 4), none⟩,
               ⟨(some 50), .call 17 [(.t 49)], none⟩,
               ⟨(some 51), .eqs true (.t 48) (.t 50), none⟩])
           (.cond (.t 51) (.seq (.reg [⟨(some 2), .mv (.c (.d (.v (.bool false)))), none⟩])
            (.ret)) (.skip))) (.seq (.reg [⟨(some 53), .bin .eql (.t 37) (.c (.d (.v (.int .i64 2)))), none⟩,
               ⟨(some 52), .mv (.t 53), none⟩])
           (.cond (.t 52) (.seq (.dreg [[], [], [1], [], [3], [0, 2, 4], [], [], [7], [], [9], [6, 8, 10, 5], [5, 11]] [⟨(some 54), .mv (.t 3), none⟩,
                ⟨(some 55), .fa (.t 6) 1, none⟩,
                ⟨(some 56), .ld (.t 55) 1 false, none⟩,
                ⟨(some 57), .fa (.t 6) 2, none⟩,
                ⟨(some 58), .ld (.t 57) 1 false, none⟩,
                ⟨(some 59), .call 9 [(.t 54), (.t 56), (.t 58)], none⟩,
                ⟨(some 60), .mv (.t 4), none⟩,
                ⟨(some 61), .fa (.t 6) 1, none⟩,
                ⟨(some 62), .ld (.t 61) 1 false, none⟩,
                ⟨(some 63), .fa (.t 6) 2, none⟩,
                ⟨(some 64), .ld (.t 63) 1 false, none⟩,
                ⟨(some 65), .call 18 [(.t 60), (.t 62), (.t 64)], none⟩,
                ⟨(some 66), .bin .neq (.t 59) (.t 65), none⟩])
            (.cond (.t 66) (.seq (.reg [⟨(some 2), .mv (.c (.d (.v (.bool false)))), none⟩])
             (.ret)) (.skip))) (.seq (.reg [⟨(some 68), .bin .eql (.t 37) (.c (.d (.v (.int .i64 4)))), none⟩,
                ⟨(some 67), .mv (.t 68), none⟩])
            (.cond (.t 67) (.seq (.reg [⟨(some 7), .mv (.c (.d (.v (.int .i64 0)))), none⟩])
             (.block 3 (.loop c4l0))) (.skip)))))))))))
       (.seq (.reg [⟨(some 91), .mv (.t 3), none⟩,
           ⟨(some 92), .fa (.t 6) 1, none⟩,
           ⟨(some 93), .ld (.t 92) 1 false, none⟩,
           ⟨(some 94), .call 13 [(.t 91), (.t 93)], none⟩,
           ⟨(some 90), .mv (.t 94), none⟩,
           ⟨(some 95), .ext (.t 90) 0, none⟩,
           ⟨(some 96), .ext (.t 90) 1, none⟩,
           ⟨(some 97), .ext (.t 90) 2, none⟩,
           ⟨(some 8), .mv (.t 95), none⟩,
           ⟨(some 9), .mv (.t 96), none⟩,
           ⟨(some 10), .mv (.t 97), none⟩])
       (.seq (.reg [⟨(some 99), .mv (.t 4), none⟩,
           ⟨(some 100), .fa (.t 6) 1, none⟩,
           ⟨(some 101), .ld (.t 100) 1 false, none⟩,
           ⟨(some 102), .call 20 [(.t 99), (.t 101)], none⟩,
           ⟨(some 98), .mv (.t 102), none⟩,
           ⟨(some 103), .ext (.t 98) 0, none⟩,
           ⟨(some 104), .ext (.t 98) 1, none⟩,
           ⟨(some 105), .ext (.t 98) 2, none⟩,
           ⟨(some 11), .mv (.t 103), none⟩,
           ⟨(some 12), .mv (.t 104), none⟩,
           ⟨(some 13), .mv (.t 105), none⟩])
       (.seq (.reg [⟨(some 106), .mv (.t 8), none⟩,
           ⟨(some 107), .mv (.t 11), none⟩,
           ⟨(some 108), .bin .neq (.t 106) (.t 107), none⟩,
           ⟨(some 109), .mv (.t 108), none⟩,
           ⟨(some 110), .mv (.t 9), (some (109, false))⟩,
           ⟨(some 111), .mv (.t 12), (some (109, false))⟩,
           ⟨(some 112), .bin .neq (.t 110) (.t 111), (some (109, false))⟩,
           ⟨(some 113), .pick (.t 109) (.c (.d (.v (.bool true)))) (.t 112), none⟩,
           ⟨(some 114), .mv (.t 113), none⟩,
           ⟨(some 115), .mv (.t 10), (some (114, false))⟩,
           ⟨(some 116), .mv (.t 13), (some (114, false))⟩,
           ⟨(some 117), .eqs true (.t 115) (.t 116), (some (114, false))⟩,
           ⟨(some 118), .pick (.t 114) (.c (.d (.v (.bool true)))) (.t 117), none⟩,
           ⟨(some 119), .mv (.t 118), none⟩,
           ⟨(some 120), .mv (.t 3), (some (119, false))⟩,
           ⟨(some 121), .call 10 [(.t 120)], (some (119, false))⟩,
           ⟨(some 122), .mv (.t 4), (some (119, false))⟩,
           ⟨(some 123), .call 21 [(.t 122)], (some (119, false))⟩,
           ⟨(some 124), .bin .neq (.t 121) (.t 123), (some (119, false))⟩,
           ⟨(some 125), .pick (.t 119) (.c (.d (.v (.bool true)))) (.t 124), none⟩])
       (.cond (.t 125) (.seq (.reg [⟨(some 2), .mv (.c (.d (.v (.bool false)))), none⟩])
        (.ret)) (.skip)))))))))
     (.reg [⟨(some 26), .mv (.t 5), none⟩,
        ⟨(some 27), .bin .add (.t 26) (.c (.d (.v (.int .i64 1)))), none⟩,
        ⟨(some 5), .mv (.t 27), none⟩]))

/-- spinet/spinetlaw15.ScopePlays -/
def c4 : AC :=
  .seq (.reg [⟨(some 2), .mv (.c (.d (.v (.bool false)))), none⟩])
  (.seq (.reg [⟨(some 14), .call 8 [], none⟩,
      ⟨(some 15), .call 14 [], none⟩,
      ⟨(some 3), .mv (.t 14), none⟩,
      ⟨(some 4), .mv (.t 15), none⟩])
  (.seq (.seq (.reg [⟨(some 16), .mv (.t 3), none⟩,
       ⟨(some 17), .eqp false (.t 16) (.c .nilp), none⟩])
   (.cond (.t 17) (.seq (.reg [⟨(some 2), .mv (.c (.d (.v (.bool false)))), none⟩])
    (.ret)) (.skip)))
  (.seq (.seq (.reg [⟨(some 5), .mv (.c (.d (.v (.int .i64 0)))), none⟩])
   (.block 0 (.loop c4l1)))
  (.seq (.reg [⟨(some 126), .mv (.t 3), none⟩,
      ⟨(some 127), .call 23 [(.t 126)], none⟩,
      ⟨(some 128), .mv (.t 4), none⟩,
      ⟨(some 129), .call 24 [(.t 128)], none⟩,
      ⟨(some 130), .call 22 [(.t 127), (.t 129)], none⟩,
      ⟨(some 131), .mv (.t 130), none⟩,
      ⟨(some 132), .call 11 [], (some (131, true))⟩,
      ⟨(some 133), .pick (.t 131) (.t 132) (.c (.d (.v (.bool false)))), none⟩,
      ⟨(some 2), .mv (.t 133), none⟩])
  (.ret)))))
def r4 : List RC := [.t 2]

def c5l0 : AC :=
  .seq (.seq (.reg [⟨(some 122), .mv (.t 15), none⟩,
          ⟨(some 123), .mv (.t 0), none⟩,
          ⟨(some 124), .len false (.t 123), none⟩,
          ⟨(some 125), .bin .lss (.t 122) (.t 124), none⟩])
      (.cond (.t 125) (.skip) (.exit 6)))
     (.seq (.block 7 (.seq (.reg [⟨(some 129), .mv (.t 5), none⟩,
           ⟨(some 130), .mv (.t 0), none⟩,
           ⟨(some 131), .mv (.t 15), none⟩,
           ⟨(some 132), .ia (.t 130) (.t 131) 1, none⟩,
           ⟨(some 133), .ld (.t 132) 1 false, none⟩,
           ⟨(some 134), .call 13 [(.t 129), (.t 133)], none⟩,
           ⟨(some 128), .mv (.t 134), none⟩,
           ⟨(some 135), .ext (.t 128) 0, none⟩,
           ⟨(some 136), .ext (.t 128) 1, none⟩,
           ⟨(some 137), .ext (.t 128) 2, none⟩,
           ⟨(some 16), .mv (.t 135), none⟩,
           ⟨(some 17), .mv (.t 136), none⟩,
           ⟨(some 18), .mv (.t 137), none⟩])
       (.seq (.reg [⟨(some 138), .mv (.t 16), none⟩,
           ⟨(some 139), .mv (.t 6), none⟩,
           ⟨(some 140), .mv (.t 15), none⟩,
           ⟨(some 141), .ia (.t 139) (.t 140) 1, none⟩,
           ⟨(some 142), .ld (.t 141) 1 false, none⟩,
           ⟨(some 143), .bin .neq (.t 138) (.t 142), none⟩,
           ⟨(some 144), .mv (.t 143), none⟩,
           ⟨(some 145), .mv (.t 17), (some (144, false))⟩,
           ⟨(some 146), .mv (.t 7), (some (144, false))⟩,
           ⟨(some 147), .mv (.t 15), (some (144, false))⟩,
           ⟨(some 148), .ia (.t 146) (.t 147) 1, (some (144, false))⟩,
           ⟨(some 149), .ld (.t 148) 1 false, (some (144, false))⟩,
           ⟨(some 150), .bin .neq (.t 145) (.t 149), (some (144, false))⟩,
           ⟨(some 151), .pick (.t 144) (.c (.d (.v (.bool true)))) (.t 150), none⟩])
       (.cond (.t 151) (.seq (.reg [⟨(some 4), .mv (.c (.d (.v (.bool false)))), none⟩])
        (.ret)) (.skip)))))
     (.reg [⟨(some 126), .mv (.t 15), none⟩,
        ⟨(some 127), .bin .add (.t 126) (.c (.d (.v (.int .i64 1)))), none⟩,
        ⟨(some 15), .mv (.t 127), none⟩]))

def c5l1 : AC :=
  .seq (.seq (.reg [⟨(some 86), .mv (.t 14), none⟩,
          ⟨(some 87), .mv (.t 1), none⟩,
          ⟨(some 88), .len false (.t 87), none⟩,
          ⟨(some 89), .bin .lss (.t 86) (.t 88), none⟩])
      (.cond (.t 89) (.skip) (.exit 4)))
     (.seq (.block 5 (.seq (.seq (.reg [⟨(some 92), .mv (.t 1), none⟩,
            ⟨(some 93), .mv (.t 14), none⟩,
            ⟨(some 94), .ia (.t 92) (.t 93) 1, none⟩,
            ⟨(some 95), .ld (.t 94) 1 false, none⟩,
            ⟨(some 96), .len true (.t 95), none⟩,
            ⟨(some 97), .bin .gtr (.t 96) (.c (.d (.v (.int .i64 5000)))), none⟩])
        (.cond (.t 97) (.seq (.reg [⟨(some 98), .call 11 [], none⟩,
             ⟨(some 4), .mv (.t 98), none⟩])
         (.ret)) (.skip)))
       (.reg [⟨(some 99), .mv (.t 5), none⟩,
          ⟨(some 100), .mv (.t 1), none⟩,
          ⟨(some 101), .mv (.t 14), none⟩,
          ⟨(some 102), .ia (.t 100) (.t 101) 1, none⟩,
          ⟨(some 103), .ld (.t 102) 1 false, none⟩,
          ⟨(some 104), .mv (.t 14), none⟩,
          ⟨(some 105), .un .neg (.t 104), none⟩,
          ⟨(some 106), .call 9 [(.t 99), (.t 103), (.t 105)], none⟩])))
     (.reg [⟨(some 90), .mv (.t 14), none⟩,
        ⟨(some 91), .bin .add (.t 90) (.c (.d (.v (.int .i64 1)))), none⟩,
        ⟨(some 14), .mv (.t 91), none⟩]))

def c5l2 : AC :=
  .seq (.seq (.reg [⟨(some 57), .mv (.t 9), none⟩,
          ⟨(some 58), .mv (.t 0), none⟩,
          ⟨(some 59), .len false (.t 58), none⟩,
          ⟨(some 60), .bin .lss (.t 57) (.t 59), none⟩])
      (.cond (.t 60) (.skip) (.exit 2)))
     (.seq (.block 3 (.seq (.reg [⟨(some 64), .mv (.t 5), none⟩,
           ⟨(some 65), .mv (.t 0), none⟩,
           ⟨(some 66), .mv (.t 9), none⟩,
           ⟨(some 67), .ia (.t 65) (.t 66) 1, none⟩,
           ⟨(some 68), .ld (.t 67) 1 false, none⟩,
           ⟨(some 69), .call 13 [(.t 64), (.t 68)], none⟩,
           ⟨(some 63), .mv (.t 69), none⟩,
           ⟨(some 70), .ext (.t 63) 0, none⟩,
           ⟨(some 71), .ext (.t 63) 1, none⟩,
           ⟨(some 72), .ext (.t 63) 2, none⟩,
           ⟨(some 10), .mv (.t 70), none⟩,
           ⟨(some 11), .mv (.t 71), none⟩,
           ⟨(some 12), .mv (.t 72), none⟩])
       (.reg [⟨(some 73), .mv (.t 6), none⟩,
          ⟨(some 74), .mv (.t 10), none⟩,
          ⟨(some 75), .bs .im 3 1 [(.t 74)], none⟩,
          ⟨(some 76), .app .gr 3 1 8 (.t 73) (.t 75), none⟩,
          ⟨(some 77), .mv (.t 7), none⟩,
          ⟨(some 78), .mv (.t 11), none⟩,
          ⟨(some 79), .bs .im 3 1 [(.t 78)], none⟩,
          ⟨(some 80), .app .gr 3 1 8 (.t 77) (.t 79), none⟩,
          ⟨(some 6), .mvg 3 1 (.t 76), none⟩,
          ⟨(some 7), .mvg 3 1 (.t 80), none⟩])))
     (.reg [⟨(some 61), .mv (.t 9), none⟩,
        ⟨(some 62), .bin .add (.t 61) (.c (.d (.v (.int .i64 1)))), none⟩,
        ⟨(some 9), .mv (.t 62), none⟩]))

def c5l3 : AC :=
  .seq (.seq (.reg [⟨(some 37), .mv (.t 8), none⟩,
          ⟨(some 38), .mv (.t 0), none⟩,
          ⟨(some 39), .len false (.t 38), none⟩,
          ⟨(some 40), .bin .lss (.t 37) (.t 39), none⟩])
      (.cond (.t 40) (.skip) (.exit 0)))
     (.seq (.block 1 (.seq (.seq (.reg [⟨(some 43), .mv (.t 0), none⟩,
            ⟨(some 44), .mv (.t 8), none⟩,
            ⟨(some 45), .ia (.t 43) (.t 44) 1, none⟩,
            ⟨(some 46), .ld (.t 45) 1 false, none⟩,
            ⟨(some 47), .len true (.t 46), none⟩,
            ⟨(some 48), .bin .gtr (.t 47) (.c (.d (.v (.int .i64 5000)))), none⟩])
        (.cond (.t 48) (.seq (.reg [⟨(some 49), .call 11 [], none⟩,
             ⟨(some 4), .mv (.t 49), none⟩])
         (.ret)) (.skip)))
       (.reg [⟨(some 50), .mv (.t 5), none⟩,
          ⟨(some 51), .mv (.t 0), none⟩,
          ⟨(some 52), .mv (.t 8), none⟩,
          ⟨(some 53), .ia (.t 51) (.t 52) 1, none⟩,
          ⟨(some 54), .ld (.t 53) 1 false, none⟩,
          ⟨(some 55), .mv (.t 8), none⟩,
          ⟨(some 56), .call 9 [(.t 50), (.t 54), (.t 55)], none⟩])))
     (.reg [⟨(some 41), .mv (.t 8), none⟩,
        ⟨(some 42), .bin .add (.t 41) (.c (.d (.v (.int .i64 1)))), none⟩,
        ⟨(some 8), .mv (.t 42), none⟩]))

/-- spinet/spinetlaw15.ScopeBack -/
def c5 : AC :=
  .seq (.reg [⟨(some 4), .mv (.c (.d (.v (.bool false)))), none⟩])
  (.seq (.reg [⟨(some 19), .call 8 [], none⟩,
      ⟨(some 5), .mv (.t 19), none⟩])
  (.seq (.seq (.reg [⟨(some 20), .mv (.t 5), none⟩,
       ⟨(some 21), .eqp false (.t 20) (.c .nilp), none⟩,
       ⟨(some 22), .mv (.t 21), none⟩,
       ⟨(some 23), .mv (.t 0), (some (22, false))⟩,
       ⟨(some 24), .len false (.t 23), (some (22, false))⟩,
       ⟨(some 25), .bin .gtr (.t 24) (.c (.d (.v (.int .i64 100)))), (some (22, false))⟩,
       ⟨(some 26), .pick (.t 22) (.c (.d (.v (.bool true)))) (.t 25), none⟩,
       ⟨(some 27), .mv (.t 26), none⟩,
       ⟨(some 28), .mv (.t 1), (some (27, false))⟩,
       ⟨(some 29), .len false (.t 28), (some (27, false))⟩,
       ⟨(some 30), .bin .gtr (.t 29) (.c (.d (.v (.int .i64 100)))), (some (27, false))⟩,
       ⟨(some 31), .pick (.t 27) (.c (.d (.v (.bool true)))) (.t 30), none⟩])
   (.cond (.t 31) (.seq (.reg [⟨(some 32), .mv (.t 5), none⟩,
        ⟨(some 33), .eqp true (.t 32) (.c .nilp), none⟩,
        ⟨(some 34), .mv (.t 33), none⟩,
        ⟨(some 35), .call 11 [], (some (34, true))⟩,
        ⟨(some 36), .pick (.t 34) (.t 35) (.c (.d (.v (.bool false)))), none⟩,
        ⟨(some 4), .mv (.t 36), none⟩])
    (.ret)) (.skip)))
  (.seq (.reg [⟨(some 6), .mvg 3 1 (.c .esl), none⟩,
      ⟨(some 7), .mvg 3 1 (.c .esl), none⟩])
  (.seq (.seq (.reg [⟨(some 8), .mv (.c (.d (.v (.int .i64 0)))), none⟩])
   (.block 0 (.loop c5l3)))
  (.seq (.seq (.reg [⟨(some 9), .mv (.c (.d (.v (.int .i64 0)))), none⟩])
   (.block 2 (.loop c5l2)))
  (.seq (.reg [⟨(some 81), .mv (.t 5), none⟩,
      ⟨(some 82), .call 23 [(.t 81)], none⟩,
      ⟨(some 13), .mv (.t 82), none⟩])
  (.seq (.seq (.reg [⟨(some 83), .mv (.t 5), none⟩,
       ⟨(some 84), .call 12 [(.t 83)], none⟩,
       ⟨(some 85), .bin .neq (.t 84) (.c (.d (.v (.int .i64 0)))), none⟩])
   (.cond (.t 85) (.seq (.reg [⟨(some 4), .mv (.c (.d (.v (.bool false)))), none⟩])
    (.ret)) (.skip)))
  (.seq (.seq (.reg [⟨(some 14), .mv (.c (.d (.v (.int .i64 0)))), none⟩])
   (.block 4 (.loop c5l1)))
  (.seq (.seq (.reg [⟨(some 107), .mv (.t 5), none⟩,
       ⟨(some 108), .call 16 [(.t 107)], none⟩,
       ⟨(some 109), .un .not (.t 108), none⟩,
       ⟨(some 110), .mv (.t 109), none⟩,
       ⟨(some 111), .mv (.t 5), (some (110, false))⟩,
       ⟨(some 112), .call 10 [(.t 111)], (some (110, false))⟩,
       ⟨(some 113), .bin .neq (.t 112) (.c (.d (.v (.int .i64 0)))), (some (110, false))⟩,
       ⟨(some 114), .pick (.t 110) (.c (.d (.v (.bool true)))) (.t 113), none⟩,
       ⟨(some 115), .mv (.t 114), none⟩,
       ⟨(some 116), .mv (.t 5), (some (115, false))⟩,
       ⟨(some 117), .call 23 [(.t 116)], (some (115, false))⟩,
       ⟨(some 118), .mv (.t 13), (some (115, false))⟩,
       ⟨(some 119), .call 22 [(.t 117), (.t 118)], (some (115, false))⟩,
       ⟨(some 120), .un .not (.t 119), (some (115, false))⟩,
       ⟨(some 121), .pick (.t 115) (.c (.d (.v (.bool true)))) (.t 120), none⟩])
   (.cond (.t 121) (.seq (.reg [⟨(some 4), .mv (.c (.d (.v (.bool false)))), none⟩])
    (.ret)) (.skip)))
  (.seq (.seq (.reg [⟨(some 15), .mv (.c (.d (.v (.int .i64 0)))), none⟩])
   (.block 6 (.loop c5l0)))
  (.seq (.reg [⟨(some 152), .call 11 [], none⟩,
      ⟨(some 4), .mv (.t 152), none⟩])
  (.ret))))))))))))
def r5 : List RC := [.t 4]

/-- spinet/spinetlaw15.ScopeNone -/
def c6 : AC :=
  .seq (.reg [⟨(some 4), .mv (.c (.d (.v (.bool false)))), none⟩])
  (.seq (.reg [⟨(some 5), .mv (.c .nilp), none⟩])
  (.seq (.reg [⟨(some 10), .mv (.t 5), none⟩,
      ⟨(some 11), .mv (.t 0), none⟩,
      ⟨(some 12), .call 13 [(.t 10), (.t 11)], none⟩,
      ⟨(some 9), .mv (.t 12), none⟩,
      ⟨(some 13), .ext (.t 9) 0, none⟩,
      ⟨(some 14), .ext (.t 9) 1, none⟩,
      ⟨(some 15), .ext (.t 9) 2, none⟩,
      ⟨(some 6), .mv (.t 13), none⟩,
      ⟨(some 7), .mv (.t 14), none⟩,
      ⟨(some 8), .mv (.t 15), none⟩])
  (.seq (.reg [⟨(some 16), .mv (.t 5), none⟩,
      ⟨(some 17), .call 12 [(.t 16)], none⟩,
      ⟨(some 18), .bin .eql (.t 17) (.c (.d (.v (.int .i64 1)))), none⟩,
      ⟨(some 19), .mv (.t 18), none⟩,
      ⟨(some 20), .mv (.t 5), (some (19, true))⟩,
      ⟨(some 21), .call 16 [(.t 20)], (some (19, true))⟩,
      ⟨(some 22), .un .not (.t 21), (some (19, true))⟩,
      ⟨(some 23), .pick (.t 19) (.t 22) (.c (.d (.v (.bool false)))), none⟩,
      ⟨(some 24), .mv (.t 23), none⟩,
      ⟨(some 25), .mv (.t 5), (some (24, true))⟩,
      ⟨(some 26), .mv (.t 0), (some (24, true))⟩,
      ⟨(some 27), .mv (.t 1), (some (24, true))⟩,
      ⟨(some 28), .call 9 [(.t 25), (.t 26), (.t 27)], (some (24, true))⟩,
      ⟨(some 29), .bin .eql (.t 28) (.c (.d (.v (.int .i64 1)))), (some (24, true))⟩,
      ⟨(some 30), .pick (.t 24) (.t 29) (.c (.d (.v (.bool false)))), none⟩,
      ⟨(some 31), .mv (.t 30), none⟩,
      ⟨(some 32), .mv (.t 8), (some (31, true))⟩,
      ⟨(some 33), .un .not (.t 32), (some (31, true))⟩,
      ⟨(some 34), .pick (.t 31) (.t 33) (.c (.d (.v (.bool false)))), none⟩,
      ⟨(some 35), .mv (.t 34), none⟩,
      ⟨(some 36), .mv (.t 5), (some (35, true))⟩,
      ⟨(some 37), .call 23 [(.t 36)], (some (35, true))⟩,
      ⟨(some 38), .len false (.t 37), (some (35, true))⟩,
      ⟨(some 39), .bin .eql (.t 38) (.c (.d (.v (.int .i64 0)))), (some (35, true))⟩,
      ⟨(some 40), .pick (.t 35) (.t 39) (.c (.d (.v (.bool false)))), none⟩,
      ⟨(some 41), .mv (.t 40), none⟩,
      ⟨(some 42), .mv (.t 5), (some (41, true))⟩,
      ⟨(some 43), .call 10 [(.t 42)], (some (41, true))⟩,
      ⟨(some 44), .bin .eql (.t 43) (.c (.d (.v (.int .i64 (-1))))), (some (41, true))⟩,
      ⟨(some 45), .pick (.t 41) (.t 44) (.c (.d (.v (.bool false)))), none⟩,
      ⟨(some 46), .mv (.t 45), none⟩,
      ⟨(some 47), .call 11 [], (some (46, true))⟩,
      ⟨(some 48), .pick (.t 46) (.t 47) (.c (.d (.v (.bool false)))), none⟩,
      ⟨(some 4), .mv (.t 48), none⟩])
  (.ret))))
def r6 : List RC := [.t 4]

def c7l0 : AC :=
  .seq (.seq (.reg [⟨(some 31), .mv (.t 8), none⟩,
          ⟨(some 32), .mv (.t 6), none⟩,
          ⟨(some 33), .bin .lss (.t 31) (.t 32), none⟩])
      (.cond (.t 33) (.skip) (.exit 0)))
     (.seq (.block 1 (.seq (.reg [⟨(some 36), .mv (.t 5), none⟩,
           ⟨(some 37), .mv (.t 8), none⟩,
           ⟨(some 38), .call 19 [(.t 37)], none⟩,
           ⟨(some 39), .mv (.t 8), none⟩,
           ⟨(some 40), .call 9 [(.t 36), (.t 38), (.t 39)], none⟩,
           ⟨(some 9), .mv (.t 40), none⟩])
       (.seq (.seq (.reg [⟨(some 41), .mv (.t 9), none⟩,
            ⟨(some 42), .bin .eql (.t 41) (.c (.d (.v (.int .i64 0)))), none⟩,
            ⟨(some 43), .mv (.t 7), none⟩,
            ⟨(some 44), .bin .lss (.t 43) (.c (.d (.v (.int .i64 256)))), none⟩,
            ⟨(some 45), .eqs true (.t 42) (.t 44), none⟩,
            ⟨(some 46), .mv (.t 45), none⟩,
            ⟨(some 47), .mv (.t 9), (some (46, false))⟩,
            ⟨(some 48), .bin .neq (.t 47) (.c (.d (.v (.int .i64 0)))), (some (46, false))⟩,
            ⟨(some 49), .mv (.t 48), (some (46, false))⟩,
            ⟨(some 50), .mv (.t 9), (some (49, true))⟩,
            ⟨(some 51), .bin .neq (.t 50) (.c (.d (.v (.int .i64 3)))), (some (49, true))⟩,
            ⟨(some 52), .pick (.t 49) (.t 51) (.c (.d (.v (.bool false)))), (some (46, false))⟩,
            ⟨(some 53), .pick (.t 46) (.c (.d (.v (.bool true)))) (.t 52), none⟩])
        (.cond (.t 53) (.seq (.reg [⟨(some 4), .mv (.c (.d (.v (.bool false)))), none⟩])
         (.ret)) (.skip)))
       (.seq (.reg [⟨(some 54), .mv (.t 9), none⟩,
           ⟨(some 55), .bin .eql (.t 54) (.c (.d (.v (.int .i64 0)))), none⟩])
       (.cond (.t 55) (.reg [⟨(some 56), .mv (.t 7), none⟩,
           ⟨(some 57), .bin .add (.t 56) (.c (.d (.v (.int .i64 1)))), none⟩,
           ⟨(some 7), .mv (.t 57), none⟩]) (.skip))))))
     (.reg [⟨(some 34), .mv (.t 8), none⟩,
        ⟨(some 35), .bin .add (.t 34) (.c (.d (.v (.int .i64 1)))), none⟩,
        ⟨(some 8), .mv (.t 35), none⟩]))

/-- spinet/spinetlaw15.ScopeFull -/
def c7 : AC :=
  .seq (.reg [⟨(some 4), .mv (.c (.d (.v (.bool false)))), none⟩])
  (.seq (.reg [⟨(some 13), .call 8 [], none⟩,
      ⟨(some 5), .mv (.t 13), none⟩])
  (.seq (.reg [⟨(some 14), .mv (.t 0), none⟩,
      ⟨(some 15), .cvi .i64 (.t 14), none⟩,
      ⟨(some 16), .bin .rem (.t 15) (.c (.d (.v (.int .i64 300)))), none⟩,
      ⟨(some 6), .mv (.t 16), none⟩])
  (.seq (.seq (.reg [⟨(some 17), .mv (.t 5), none⟩,
       ⟨(some 18), .eqp false (.t 17) (.c .nilp), none⟩,
       ⟨(some 19), .mv (.t 18), none⟩,
       ⟨(some 20), .mv (.t 5), (some (19, false))⟩,
       ⟨(some 21), .call 9 [(.t 20), (.c (.d (.v (.string ⟨#[102, 105, 114, 115, 116]⟩)))), (.c (.d (.v (.int .i64 (-1)))))], (some (19, false))⟩,
       ⟨(some 22), .bin .neq (.t 21) (.c (.d (.v (.int .i64 0)))), (some (19, false))⟩,
       ⟨(some 23), .pick (.t 19) (.c (.d (.v (.bool true)))) (.t 22), none⟩])
   (.cond (.t 23) (.seq (.reg [⟨(some 4), .mv (.c (.d (.v (.bool false)))), none⟩])
    (.ret)) (.skip)))
  (.seq (.seq (.reg [⟨(some 24), .mv (.t 1), none⟩,
       ⟨(some 25), .mv (.t 24), none⟩,
       ⟨(some 26), .mv (.t 5), (some (25, true))⟩,
       ⟨(some 27), .call 12 [(.t 26)], (some (25, true))⟩,
       ⟨(some 28), .bin .neq (.t 27) (.c (.d (.v (.int .i64 0)))), (some (25, true))⟩,
       ⟨(some 29), .pick (.t 25) (.t 28) (.c (.d (.v (.bool false)))), none⟩])
   (.cond (.t 29) (.seq (.reg [⟨(some 4), .mv (.c (.d (.v (.bool false)))), none⟩])
    (.ret)) (.skip)))
  (.seq (.reg [⟨(some 7), .mv (.c (.d (.v (.int .i64 1)))), none⟩])
  (.seq (.seq (.reg [⟨(some 30), .mv (.t 1), none⟩])
   (.cond (.t 30) (.reg [⟨(some 7), .mv (.c (.d (.v (.int .i64 0)))), none⟩]) (.skip)))
  (.seq (.seq (.reg [⟨(some 8), .mv (.c (.d (.v (.int .i64 0)))), none⟩])
   (.block 0 (.loop c7l0)))
  (.seq (.reg [⟨(some 59), .mv (.t 5), none⟩,
      ⟨(some 60), .call 13 [(.t 59), (.c (.d (.v (.string ⟨#[102, 105, 114, 115, 116]⟩))))], none⟩,
      ⟨(some 58), .mv (.t 60), none⟩,
      ⟨(some 61), .ext (.t 58) 0, none⟩,
      ⟨(some 62), .ext (.t 58) 1, none⟩,
      ⟨(some 63), .ext (.t 58) 2, none⟩,
      ⟨(some 10), .mv (.t 61), none⟩,
      ⟨(some 11), .mv (.t 62), none⟩,
      ⟨(some 12), .mv (.t 63), none⟩])
  (.seq (.reg [⟨(some 64), .mv (.t 12), none⟩,
      ⟨(some 65), .mv (.t 64), none⟩,
      ⟨(some 66), .mv (.t 10), (some (65, true))⟩,
      ⟨(some 67), .bin .eql (.t 66) (.c (.d (.v (.int .i64 (-1))))), (some (65, true))⟩,
      ⟨(some 68), .pick (.t 65) (.t 67) (.c (.d (.v (.bool false)))), none⟩,
      ⟨(some 69), .mv (.t 68), none⟩,
      ⟨(some 70), .mv (.t 11), (some (69, true))⟩,
      ⟨(some 71), .bin .eql (.t 70) (.c (.d (.v (.int .i64 0)))), (some (69, true))⟩,
      ⟨(some 72), .pick (.t 69) (.t 71) (.c (.d (.v (.bool false)))), none⟩,
      ⟨(some 73), .mv (.t 72), none⟩,
      ⟨(some 74), .mv (.t 5), (some (73, true))⟩,
      ⟨(some 75), .call 23 [(.t 74)], (some (73, true))⟩,
      ⟨(some 76), .len false (.t 75), (some (73, true))⟩,
      ⟨(some 77), .mv (.t 7), (some (73, true))⟩,
      ⟨(some 78), .bin .eql (.t 76) (.t 77), (some (73, true))⟩,
      ⟨(some 79), .pick (.t 73) (.t 78) (.c (.d (.v (.bool false)))), none⟩,
      ⟨(some 80), .mv (.t 79), none⟩,
      ⟨(some 81), .mv (.t 6), (some (80, true))⟩,
      ⟨(some 82), .bin .eql (.t 81) (.c (.d (.v (.int .i64 0)))), (some (80, true))⟩,
      ⟨(some 83), .mv (.t 82), (some (80, true))⟩,
      ⟨(some 84), .mv (.t 7), (some (83, false))⟩,
      ⟨(some 85), .bin .eql (.t 84) (.c (.d (.v (.int .i64 256)))), (some (83, false))⟩,
      ⟨(some 86), .pick (.t 83) (.c (.d (.v (.bool true)))) (.t 85), (some (80, true))⟩,
      ⟨(some 87), .mv (.t 86), (some (80, true))⟩,
      ⟨(some 88), .mv (.t 5), (some (87, false))⟩,
      ⟨(some 89), .call 19 [(.c (.d (.v (.int .i64 0))))], (some (87, false))⟩,
      ⟨(some 90), .call 9 [(.t 88), (.t 89), (.c (.d (.v (.int .i64 5))))], (some (87, false))⟩,
      ⟨(some 91), .bin .eql (.t 90) (.c (.d (.v (.int .i64 151)))), (some (87, false))⟩,
      ⟨(some 92), .pick (.t 87) (.c (.d (.v (.bool true)))) (.t 91), (some (80, true))⟩,
      ⟨(some 93), .pick (.t 80) (.t 92) (.c (.d (.v (.bool false)))), none⟩,
      ⟨(some 94), .mv (.t 93), none⟩,
      ⟨(some 95), .call 11 [], (some (94, true))⟩,
      ⟨(some 96), .pick (.t 94) (.t 95) (.c (.d (.v (.bool false)))), none⟩,
      ⟨(some 4), .mv (.t 96), none⟩])
  (.ret))))))))))
def r7 : List RC := [.t 4]

/-- spinet/scope.New -/
def c8 : AC :=
  .seq (.reg [⟨(some 0), .mv (.c .nilp), none⟩])
  (.seq (.reg [⟨(some 1), .bd [.mnil, .esl, .esl] [], none⟩,
      ⟨(some 2), .bx (.t 1), none⟩,
      ⟨(some 0), .mv (.t 2), none⟩])
  (.ret))
def r8 : List RC := [.t 0]

/-- (*spinet/scope.Scope).Declare -/
def c9 : AC :=
  .seq (.reg [⟨(some 6), .mv (.c (.d (.v (.int .i64 0)))), none⟩])
  (.seq (.seq (.reg [⟨(some 11), .mv (.t 0), none⟩,
       ⟨(some 12), .eqp false (.t 11) (.c .nilp), none⟩])
   (.cond (.t 12) (.seq (.reg [⟨(some 6), .mv (.c (.d (.v (.int .i64 1)))), none⟩])
    (.ret)) (.skip)))
  (.seq (.seq (.reg [⟨(some 13), .mv (.t 1), none⟩,
       ⟨(some 14), .call 25 [(.t 13)], none⟩,
       ⟨(some 15), .un .not (.t 14), none⟩])
   (.cond (.t 15) (.seq (.reg [⟨(some 6), .mv (.c (.d (.v (.int .i64 150)))), none⟩])
    (.ret)) (.skip)))
  (.seq (.reg [⟨(some 16), .mv (.t 0), none⟩,
      ⟨(some 17), .call 10 [(.t 16)], none⟩,
      ⟨(some 18), .mv (.t 1), none⟩,
      ⟨(some 19), .bd [(.d (.v (.int .i64 0))), (.d (.v (.string ⟨#[]⟩)))] [(0, 1, (.t 17)), (1, 1, (.t 18))], none⟩,
      ⟨(some 7), .al [(.d (.v (.int .i64 0))), (.d (.v (.string ⟨#[]⟩)))], none⟩,
      ⟨none, .st (.t 7) (.t 19) 2, none⟩])
  (.seq (.seq (.dreg [[], [0], [1], [2], [], [3, 4], [5], [6], [6], [7, 0, 1, 2, 3, 4, 5, 6, 7], [8, 9, 0, 1, 2, 3, 4, 5, 6, 7, 8, 9]] [⟨(some 21), .mv (.t 0), none⟩,
       ⟨(some 22), .nc (.t 21), none⟩,
       ⟨(some 23), .fa (.t 22) 0, none⟩,
       ⟨(some 24), .ld (.t 23) 1 false, none⟩,
       ⟨(some 25), .ld (.t 7) 2 true, none⟩,
       ⟨(some 26), .lk ⟨true, [.i .i64, .s]⟩ (.d (.v (.int .i64 0))) (.t 24) (.t 25) true, none⟩,
       ⟨(some 20), .mv (.t 26), none⟩,
       ⟨(some 27), .ext (.t 20) 0, none⟩,
       ⟨(some 28), .ext (.t 20) 1, none⟩,
       ⟨(some 8), .mv (.t 27), none⟩,
       ⟨(some 9), .mv (.t 28), none⟩])
   (.seq (.reg [⟨(some 29), .mv (.t 9), none⟩])
   (.cond (.t 29) (.seq (.reg [⟨(some 6), .mv (.c (.d (.v (.int .i64 151)))), none⟩])
    (.ret)) (.skip))))
  (.seq (.reg [⟨(some 30), .mv (.t 0), none⟩,
      ⟨(some 31), .call 26 [(.t 30)], none⟩,
      ⟨(some 10), .mv (.t 31), none⟩])
  (.seq (.seq (.reg [⟨(some 32), .mv (.t 10), none⟩,
       ⟨(some 33), .nc (.t 32), none⟩,
       ⟨(some 34), .ld (.t 33) 1 false, none⟩,
       ⟨(some 35), .len false (.t 34), none⟩,
       ⟨(some 36), .bin .eql (.t 35) (.c (.d (.v (.int .i64 256)))), none⟩])
   (.cond (.t 36) (.seq (.reg [⟨(some 6), .mv (.c (.d (.v (.int .i64 3)))), none⟩])
    (.ret)) (.skip)))
  (.seq (.seq (.reg [⟨(some 37), .mv (.t 0), none⟩,
       ⟨(some 38), .nc (.t 37), none⟩,
       ⟨(some 39), .fa (.t 38) 0, none⟩,
       ⟨(some 40), .ld (.t 39) 1 false, none⟩,
       ⟨(some 41), .isn true false (.t 40), none⟩])
   (.cond (.t 41) (.reg [⟨(some 42), .mv (.t 0), none⟩,
       ⟨(some 43), .mkm ⟨true, [.i .i64, .s]⟩, none⟩,
       ⟨(some 44), .nc (.t 42), none⟩,
       ⟨(some 45), .fa (.t 44) 0, none⟩,
       ⟨none, .st (.t 45) (.t 43) 1, none⟩]) (.skip)))
  (.seq (.dreg [[], [0], [1], [2], [], [], [3, 4, 5, 0, 1, 2, 3, 4, 5]] [⟨(some 46), .mv (.t 0), none⟩,
      ⟨(some 47), .nc (.t 46), none⟩,
      ⟨(some 48), .fa (.t 47) 0, none⟩,
      ⟨(some 49), .ld (.t 48) 1 false, none⟩,
      ⟨(some 50), .ld (.t 7) 2 true, none⟩,
      ⟨(some 51), .mv (.t 2), none⟩,
      ⟨none, .mu ⟨true, [.i .i64, .s]⟩ (.t 49) (.t 50) (.t 51), none⟩])
  (.seq (.reg [⟨(some 52), .mv (.t 10), none⟩,
      ⟨(some 53), .mv (.t 10), none⟩,
      ⟨(some 54), .nc (.t 53), none⟩,
      ⟨(some 55), .ld (.t 54) 1 false, none⟩,
      ⟨(some 56), .mv (.t 1), none⟩,
      ⟨(some 57), .bs .im 9 1 [(.t 56)], none⟩,
      ⟨(some 58), .app .gr 9 1 16 (.t 55) (.t 57), none⟩,
      ⟨(some 59), .nc (.t 52), none⟩,
      ⟨none, .st (.t 59) (.t 58) 1, none⟩])
  (.seq (.reg [⟨(some 6), .mv (.c (.d (.v (.int .i64 0)))), none⟩])
  (.ret)))))))))))
def r9 : List RC := [.t 6]

/-- (*spinet/scope.Scope).Depth -/
def c10 : AC :=
  .seq (.reg [⟨(some 2), .mv (.c (.d (.v (.int .i64 0)))), none⟩])
  (.seq (.seq (.reg [⟨(some 3), .mv (.t 0), none⟩,
       ⟨(some 4), .eqp false (.t 3) (.c .nilp), none⟩])
   (.cond (.t 4) (.seq (.reg [⟨(some 2), .mv (.c (.d (.v (.int .i64 (-1))))), none⟩])
    (.ret)) (.skip)))
  (.seq (.reg [⟨(some 5), .mv (.t 0), none⟩,
      ⟨(some 6), .nc (.t 5), none⟩,
      ⟨(some 7), .fa (.t 6) 1, none⟩,
      ⟨(some 8), .ld (.t 7) 1 false, none⟩,
      ⟨(some 9), .len false (.t 8), none⟩,
      ⟨(some 2), .mv (.t 9), none⟩])
  (.ret)))
def r10 : List RC := [.t 2]

/-- spinet/spinetlaw15.wakes -/
def c11 : AC :=
  .seq (.reg [⟨(some 0), .mv (.c (.d (.v (.bool false)))), none⟩])
  (.seq (.reg [⟨(some 9), .call 8 [], none⟩,
      ⟨(some 1), .mv (.t 9), none⟩])
  (.seq (.seq (.reg [⟨(some 10), .mv (.t 1), none⟩,
       ⟨(some 11), .eqp false (.t 10) (.c .nilp), none⟩,
       ⟨(some 12), .mv (.t 11), none⟩,
       ⟨(some 13), .mv (.t 1), (some (12, false))⟩,
       ⟨(some 14), .call 9 [(.t 13), (.c (.d (.v (.string ⟨#[120]⟩)))), (.c (.d (.v (.int .i64 1))))], (some (12, false))⟩,
       ⟨(some 15), .bin .neq (.t 14) (.c (.d (.v (.int .i64 0)))), (some (12, false))⟩,
       ⟨(some 16), .pick (.t 12) (.c (.d (.v (.bool true)))) (.t 15), none⟩,
       ⟨(some 17), .mv (.t 16), none⟩,
       ⟨(some 18), .mv (.t 1), (some (17, false))⟩,
       ⟨(some 19), .call 12 [(.t 18)], (some (17, false))⟩,
       ⟨(some 20), .bin .neq (.t 19) (.c (.d (.v (.int .i64 0)))), (some (17, false))⟩,
       ⟨(some 21), .pick (.t 17) (.c (.d (.v (.bool true)))) (.t 20), none⟩,
       ⟨(some 22), .mv (.t 21), none⟩,
       ⟨(some 23), .mv (.t 1), (some (22, false))⟩,
       ⟨(some 24), .call 9 [(.t 23), (.c (.d (.v (.string ⟨#[120]⟩)))), (.c (.d (.v (.int .i64 2))))], (some (22, false))⟩,
       ⟨(some 25), .bin .neq (.t 24) (.c (.d (.v (.int .i64 0)))), (some (22, false))⟩,
       ⟨(some 26), .pick (.t 22) (.c (.d (.v (.bool true)))) (.t 25), none⟩])
   (.cond (.t 26) (.seq (.reg [⟨(some 0), .mv (.c (.d (.v (.bool false)))), none⟩])
    (.ret)) (.skip)))
  (.seq (.reg [⟨(some 28), .mv (.t 1), none⟩,
      ⟨(some 29), .call 13 [(.t 28), (.c (.d (.v (.string ⟨#[120]⟩))))], none⟩,
      ⟨(some 27), .mv (.t 29), none⟩,
      ⟨(some 30), .ext (.t 27) 0, none⟩,
      ⟨(some 31), .ext (.t 27) 1, none⟩,
      ⟨(some 32), .ext (.t 27) 2, none⟩,
      ⟨(some 2), .mv (.t 30), none⟩,
      ⟨(some 3), .mv (.t 31), none⟩,
      ⟨(some 4), .mv (.t 32), none⟩])
  (.seq (.reg [⟨(some 33), .mv (.t 1), none⟩,
      ⟨(some 34), .call 16 [(.t 33)], none⟩,
      ⟨(some 5), .mv (.t 34), none⟩])
  (.seq (.reg [⟨(some 36), .mv (.t 1), none⟩,
      ⟨(some 37), .call 13 [(.t 36), (.c (.d (.v (.string ⟨#[120]⟩))))], none⟩,
      ⟨(some 35), .mv (.t 37), none⟩,
      ⟨(some 38), .ext (.t 35) 0, none⟩,
      ⟨(some 39), .ext (.t 35) 1, none⟩,
      ⟨(some 40), .ext (.t 35) 2, none⟩,
      ⟨(some 6), .mv (.t 38), none⟩,
      ⟨(some 7), .mv (.t 39), none⟩,
      ⟨(some 8), .mv (.t 40), none⟩])
  (.seq (.reg [⟨(some 41), .mv (.t 4), none⟩,
      ⟨(some 42), .mv (.t 41), none⟩,
      ⟨(some 43), .mv (.t 8), (some (42, true))⟩,
      ⟨(some 44), .pick (.t 42) (.t 43) (.c (.d (.v (.bool false)))), none⟩,
      ⟨(some 45), .mv (.t 44), none⟩,
      ⟨(some 46), .mv (.t 5), (some (45, true))⟩,
      ⟨(some 47), .pick (.t 45) (.t 46) (.c (.d (.v (.bool false)))), none⟩,
      ⟨(some 48), .mv (.t 47), none⟩,
      ⟨(some 49), .mv (.t 2), (some (48, true))⟩,
      ⟨(some 50), .bin .eql (.t 49) (.c (.d (.v (.int .i64 2)))), (some (48, true))⟩,
      ⟨(some 51), .pick (.t 48) (.t 50) (.c (.d (.v (.bool false)))), none⟩,
      ⟨(some 52), .mv (.t 51), none⟩,
      ⟨(some 53), .mv (.t 3), (some (52, true))⟩,
      ⟨(some 54), .bin .eql (.t 53) (.c (.d (.v (.int .i64 1)))), (some (52, true))⟩,
      ⟨(some 55), .pick (.t 52) (.t 54) (.c (.d (.v (.bool false)))), none⟩,
      ⟨(some 56), .mv (.t 55), none⟩,
      ⟨(some 57), .mv (.t 6), (some (56, true))⟩,
      ⟨(some 58), .bin .eql (.t 57) (.c (.d (.v (.int .i64 1)))), (some (56, true))⟩,
      ⟨(some 59), .pick (.t 56) (.t 58) (.c (.d (.v (.bool false)))), none⟩,
      ⟨(some 0), .mv (.t 59), none⟩])
  (.ret)))))))
def r11 : List RC := [.t 0]

/-- (*spinet/scope.Scope).Open -/
def c12 : AC :=
  .seq (.reg [⟨(some 2), .mv (.c (.d (.v (.int .i64 0)))), none⟩])
  (.seq (.seq (.reg [⟨(some 3), .mv (.t 0), none⟩,
       ⟨(some 4), .eqp false (.t 3) (.c .nilp), none⟩])
   (.cond (.t 4) (.seq (.reg [⟨(some 2), .mv (.c (.d (.v (.int .i64 1)))), none⟩])
    (.ret)) (.skip)))
  (.seq (.seq (.reg [⟨(some 5), .mv (.t 0), none⟩,
       ⟨(some 6), .nc (.t 5), none⟩,
       ⟨(some 7), .fa (.t 6) 1, none⟩,
       ⟨(some 8), .ld (.t 7) 1 false, none⟩,
       ⟨(some 9), .len false (.t 8), none⟩,
       ⟨(some 10), .bin .add (.t 9) (.c (.d (.v (.int .i64 1)))), none⟩,
       ⟨(some 11), .bin .geq (.t 10) (.c (.d (.v (.int .i64 64)))), none⟩])
   (.cond (.t 11) (.seq (.reg [⟨(some 2), .mv (.c (.d (.v (.int .i64 4)))), none⟩])
    (.ret)) (.skip)))
  (.seq (.reg [⟨(some 12), .mv (.t 0), none⟩,
      ⟨(some 13), .mv (.t 0), none⟩,
      ⟨(some 14), .nc (.t 13), none⟩,
      ⟨(some 15), .fa (.t 14) 1, none⟩,
      ⟨(some 16), .ld (.t 15) 1 false, none⟩,
      ⟨(some 17), .bs .hp 40 1 [(.c .esl)], none⟩,
      ⟨(some 18), .app .hp 40 1 24 (.t 16) (.t 17), none⟩,
      ⟨(some 19), .nc (.t 12), none⟩,
      ⟨(some 20), .fa (.t 19) 1, none⟩,
      ⟨none, .st (.t 20) (.t 18) 1, none⟩])
  (.seq (.reg [⟨(some 2), .mv (.c (.d (.v (.int .i64 0)))), none⟩])
  (.ret)))))
def r12 : List RC := [.t 2]

def c13l0 : AC :=
  .seq (.seq (.reg [⟨(some 12), .mv (.t 7), none⟩,
          ⟨(some 13), .bin .geq (.t 12) (.c (.d (.v (.int .i64 0)))), none⟩])
      (.cond (.t 13) (.skip) (.exit 0)))
     (.seq (.block 1 (.seq (.reg [⟨(some 17), .mv (.t 0), none⟩,
           ⟨(some 18), .nc (.t 17), none⟩,
           ⟨(some 19), .fa (.t 18) 0, none⟩,
           ⟨(some 20), .ld (.t 19) 1 false, none⟩,
           ⟨(some 21), .mv (.t 7), none⟩,
           ⟨(some 22), .mv (.t 1), none⟩,
           ⟨(some 23), .bd [(.d (.v (.int .i64 0))), (.d (.v (.string ⟨#[]⟩)))] [(0, 1, (.t 21)), (1, 1, (.t 22))], none⟩,
           ⟨(some 24), .lk ⟨true, [.i .i64, .s]⟩ (.d (.v (.int .i64 0))) (.t 20) (.t 23) true, none⟩,
           ⟨(some 16), .mv (.t 24), none⟩,
           ⟨(some 25), .ext (.t 16) 0, none⟩,
           ⟨(some 26), .ext (.t 16) 1, none⟩,
           ⟨(some 8), .mv (.t 25), none⟩,
           ⟨(some 9), .mv (.t 26), none⟩])
       (.seq (.reg [⟨(some 27), .mv (.t 9), none⟩])
       (.cond (.t 27) (.seq (.reg [⟨(some 28), .mv (.t 8), none⟩,
            ⟨(some 29), .mv (.t 7), none⟩,
            ⟨(some 4), .mv (.t 28), none⟩,
            ⟨(some 5), .mv (.t 29), none⟩,
            ⟨(some 6), .mv (.c (.d (.v (.bool true)))), none⟩])
        (.ret)) (.skip)))))
     (.reg [⟨(some 14), .mv (.t 7), none⟩,
        ⟨(some 15), .bin .sub (.t 14) (.c (.d (.v (.int .i64 1)))), none⟩,
        ⟨(some 7), .mv (.t 15), none⟩]))

/-- (*spinet/scope.Scope).Find -/
def c13 : AC :=
  .seq (.reg [⟨(some 4), .mv (.c (.d (.v (.int .i64 0)))), none⟩,
      ⟨(some 5), .mv (.c (.d (.v (.int .i64 0)))), none⟩,
      ⟨(some 6), .mv (.c (.d (.v (.bool false)))), none⟩])
  (.seq (.seq (.reg [⟨(some 10), .mv (.t 0), none⟩,
       ⟨(some 11), .call 10 [(.t 10)], none⟩,
       ⟨(some 7), .mv (.t 11), none⟩])
   (.block 0 (.loop c13l0)))
  (.seq (.reg [⟨(some 4), .mv (.c (.d (.v (.int .i64 0)))), none⟩,
      ⟨(some 5), .mv (.c (.d (.v (.int .i64 0)))), none⟩,
      ⟨(some 6), .mv (.c (.d (.v (.bool false)))), none⟩])
  (.ret)))
def r13 : List RC := [.t 4, .t 5, .t 6]

/-- spinet/spinetref15.New -/
def c14 : AC :=
  .seq (.reg [⟨(some 0), .mv (.c .nilp), none⟩])
  (.seq (.reg [⟨(some 1), .bs .hp 40 1 [(.c .esl)], none⟩,
      ⟨(some 2), .bs .hp 43 1 [(.c .esl)], none⟩,
      ⟨(some 3), .bd [.esl, .esl] [(0, 1, (.t 1)), (1, 1, (.t 2))], none⟩,
      ⟨(some 4), .bx (.t 3), none⟩,
      ⟨(some 0), .mv (.t 4), none⟩])
  (.ret))
def r14 : List RC := [.t 0]

/-- (*spinet/spinetref15.Scope).Open -/
def c15 : AC :=
  .seq (.reg [⟨(some 2), .mv (.c (.d (.v (.int .i64 0)))), none⟩])
  (.seq (.seq (.reg [⟨(some 3), .mv (.t 0), none⟩,
       ⟨(some 4), .eqp false (.t 3) (.c .nilp), none⟩])
   (.cond (.t 4) (.seq (.reg [⟨(some 2), .mv (.c (.d (.v (.int .i64 1)))), none⟩])
    (.ret)) (.skip)))
  (.seq (.seq (.reg [⟨(some 5), .mv (.t 0), none⟩,
       ⟨(some 6), .nc (.t 5), none⟩,
       ⟨(some 7), .fa (.t 6) 0, none⟩,
       ⟨(some 8), .ld (.t 7) 1 false, none⟩,
       ⟨(some 9), .len false (.t 8), none⟩,
       ⟨(some 10), .bin .eql (.t 9) (.c (.d (.v (.int .i64 64)))), none⟩])
   (.cond (.t 10) (.seq (.reg [⟨(some 2), .mv (.c (.d (.v (.int .i64 4)))), none⟩])
    (.ret)) (.skip)))
  (.seq (.dreg [[], [], [], [2], [3], [4], [], [5, 6], [], [8], [9], [10], [], [11, 12, 7], [0, 0, 2, 3, 4, 5, 6, 7, 11, 13], [14, 0, 2, 3, 4, 5, 6, 7, 11, 13], [15, 7, 13, 0, 2, 3, 4, 5, 6, 7, 11, 13], [1, 0, 1, 2, 3, 4, 5, 6, 7, 8, 9, 10, 11, 12, 13, 14, 15, 16], [17, 0, 1, 2, 3, 4, 5, 6, 7, 8, 9, 10, 11, 12, 13, 14, 15, 16], [18, 13, 16, 0, 1, 2, 3, 4, 5, 6, 7, 8, 9, 10, 11, 12, 13, 14, 15, 16]] [⟨(some 11), .mv (.t 0), none⟩,
      ⟨(some 12), .mv (.t 0), none⟩,
      ⟨(some 13), .mv (.t 0), none⟩,
      ⟨(some 14), .nc (.t 13), none⟩,
      ⟨(some 15), .fa (.t 14) 0, none⟩,
      ⟨(some 16), .ld (.t 15) 1 false, none⟩,
      ⟨(some 17), .bs .hp 40 1 [(.c .esl)], none⟩,
      ⟨(some 18), .app .hp 40 1 24 (.t 16) (.t 17), none⟩,
      ⟨(some 19), .mv (.t 0), none⟩,
      ⟨(some 20), .nc (.t 19), none⟩,
      ⟨(some 21), .fa (.t 20) 1, none⟩,
      ⟨(some 22), .ld (.t 21) 1 false, none⟩,
      ⟨(some 23), .bs .hp 43 1 [(.c .esl)], none⟩,
      ⟨(some 24), .app .hp 43 1 24 (.t 22) (.t 23), none⟩,
      ⟨(some 25), .nc (.t 11), none⟩,
      ⟨(some 26), .fa (.t 25) 0, none⟩,
      ⟨none, .st (.t 26) (.t 18) 1, none⟩,
      ⟨(some 27), .nc (.t 12), none⟩,
      ⟨(some 28), .fa (.t 27) 1, none⟩,
      ⟨none, .st (.t 28) (.t 24) 1, none⟩])
  (.seq (.reg [⟨(some 2), .mv (.c (.d (.v (.int .i64 0)))), none⟩])
  (.ret)))))
def r15 : List RC := [.t 2]

def c16l0 : AC :=
  .seq (.reg [⟨(some 31), .bin .lss (.t 30) (.t 29), none⟩])
     (.seq (.cond (.t 31) (.skip) (.exit 0))
     (.seq (.block 1 (.seq (.reg [⟨(some 32), .ia (.t 28) (.t 30) 1, none⟩,
           ⟨(some 33), .ld (.t 32) 1 false, none⟩,
           ⟨(some 5), .mv (.t 33), none⟩])
       (.reg [⟨(some 34), .mv (.t 0), none⟩,
          ⟨(some 35), .nc (.t 34), none⟩,
          ⟨(some 36), .fa (.t 35) 0, none⟩,
          ⟨(some 37), .ld (.t 36) 1 false, none⟩,
          ⟨(some 38), .mv (.t 3), none⟩,
          ⟨(some 39), .mv (.t 5), none⟩,
          ⟨(some 40), .bd [(.d (.v (.int .i64 0))), (.d (.v (.string ⟨#[]⟩)))] [(0, 1, (.t 38)), (1, 1, (.t 39))], none⟩,
          ⟨none, .del ⟨true, [.i .i64, .s]⟩ (.t 37) (.t 40), none⟩])))
     (.reg [⟨(some 41), .bin .add (.t 30) (.c (.d (.v (.int .i64 1)))), none⟩,
        ⟨(some 30), .mv (.t 41), none⟩])))

/-- (*spinet/scope.Scope).Close -/
def c16 : AC :=
  .seq (.reg [⟨(some 2), .mv (.c (.d (.v (.bool false)))), none⟩])
  (.seq (.seq (.reg [⟨(some 6), .mv (.t 0), none⟩,
       ⟨(some 7), .eqp false (.t 6) (.c .nilp), none⟩,
       ⟨(some 8), .mv (.t 7), none⟩,
       ⟨(some 9), .mv (.t 0), (some (8, false))⟩,
       ⟨(some 10), .nc (.t 9), (some (8, false))⟩,
       ⟨(some 11), .fa (.t 10) 1, (some (8, false))⟩,
       ⟨(some 12), .ld (.t 11) 1 false, (some (8, false))⟩,
       ⟨(some 13), .len false (.t 12), (some (8, false))⟩,
       ⟨(some 14), .bin .eql (.t 13) (.c (.d (.v (.int .i64 0)))), (some (8, false))⟩,
       ⟨(some 15), .pick (.t 8) (.c (.d (.v (.bool true)))) (.t 14), none⟩])
   (.cond (.t 15) (.seq (.reg [⟨(some 2), .mv (.c (.d (.v (.bool false)))), none⟩])
    (.ret)) (.skip)))
  (.seq (.reg [⟨(some 16), .mv (.t 0), none⟩,
      ⟨(some 17), .nc (.t 16), none⟩,
      ⟨(some 18), .fa (.t 17) 1, none⟩,
      ⟨(some 19), .ld (.t 18) 1 false, none⟩,
      ⟨(some 20), .len false (.t 19), none⟩,
      ⟨(some 3), .mv (.t 20), none⟩])
  (.seq (.seq (.reg [⟨(some 21), .mv (.t 0), none⟩,
       ⟨(some 22), .nc (.t 21), none⟩,
       ⟨(some 23), .fa (.t 22) 1, none⟩,
       ⟨(some 24), .ld (.t 23) 1 false, none⟩,
       ⟨(some 25), .mv (.t 3), none⟩,
       ⟨(some 26), .bin .sub (.t 25) (.c (.d (.v (.int .i64 1)))), none⟩,
       ⟨(some 27), .ia (.t 24) (.t 26) 1, none⟩,
       ⟨(some 28), .ld (.t 27) 1 false, none⟩,
       ⟨(some 29), .len false (.t 28), none⟩,
       ⟨(some 30), .mv (.c (.d (.v (.int .i64 0)))), none⟩])
   (.block 0 (.loop c16l0)))
  (.seq (.reg [⟨(some 42), .mv (.t 0), none⟩,
      ⟨(some 43), .mv (.t 0), none⟩,
      ⟨(some 44), .nc (.t 43), none⟩,
      ⟨(some 45), .fa (.t 44) 1, none⟩,
      ⟨(some 46), .ld (.t 45) 1 false, none⟩,
      ⟨(some 47), .mv (.t 3), none⟩,
      ⟨(some 48), .bin .sub (.t 47) (.c (.d (.v (.int .i64 1)))), none⟩,
      ⟨(some 49), .sli false (.t 46) none (some (.t 48)) 1, none⟩,
      ⟨(some 50), .nc (.t 42), none⟩,
      ⟨(some 51), .fa (.t 50) 1, none⟩,
      ⟨none, .st (.t 51) (.t 49) 1, none⟩])
  (.seq (.reg [⟨(some 2), .mv (.c (.d (.v (.bool true)))), none⟩])
  (.ret))))))
def r16 : List RC := [.t 2]

/-- (*spinet/spinetref15.Scope).Close -/
def c17 : AC :=
  .seq (.reg [⟨(some 2), .mv (.c (.d (.v (.bool false)))), none⟩])
  (.seq (.seq (.reg [⟨(some 4), .mv (.t 0), none⟩,
       ⟨(some 5), .call 21 [(.t 4)], none⟩,
       ⟨(some 6), .bin .lss (.t 5) (.c (.d (.v (.int .i64 1)))), none⟩])
   (.cond (.t 6) (.seq (.reg [⟨(some 2), .mv (.c (.d (.v (.bool false)))), none⟩])
    (.ret)) (.skip)))
  (.seq (.reg [⟨(some 7), .mv (.t 0), none⟩,
      ⟨(some 8), .call 21 [(.t 7)], none⟩,
      ⟨(some 3), .mv (.t 8), none⟩])
  (.seq (.dreg [[], [], [], [2], [3], [4], [], [5, 6], [], [8], [9], [10], [], [11, 12], [0, 0, 2, 3, 4, 5, 6, 7, 11], [14, 0, 2, 3, 4, 5, 6, 7, 11], [15, 7, 0, 2, 3, 4, 5, 6, 7, 11], [1, 0, 1, 2, 3, 4, 5, 6, 7, 8, 9, 10, 11, 12, 13, 14, 15, 16], [17, 0, 1, 2, 3, 4, 5, 6, 7, 8, 9, 10, 11, 12, 13, 14, 15, 16], [18, 13, 16, 0, 1, 2, 3, 4, 5, 6, 7, 8, 9, 10, 11, 12, 13, 14, 15, 16]] [⟨(some 9), .mv (.t 0), none⟩,
      ⟨(some 10), .mv (.t 0), none⟩,
      ⟨(some 11), .mv (.t 0), none⟩,
      ⟨(some 12), .nc (.t 11), none⟩,
      ⟨(some 13), .fa (.t 12) 0, none⟩,
      ⟨(some 14), .ld (.t 13) 1 false, none⟩,
      ⟨(some 15), .mv (.t 3), none⟩,
      ⟨(some 16), .sli false (.t 14) none (some (.t 15)) 1, none⟩,
      ⟨(some 17), .mv (.t 0), none⟩,
      ⟨(some 18), .nc (.t 17), none⟩,
      ⟨(some 19), .fa (.t 18) 1, none⟩,
      ⟨(some 20), .ld (.t 19) 1 false, none⟩,
      ⟨(some 21), .mv (.t 3), none⟩,
      ⟨(some 22), .sli false (.t 20) none (some (.t 21)) 1, none⟩,
      ⟨(some 23), .nc (.t 9), none⟩,
      ⟨(some 24), .fa (.t 23) 0, none⟩,
      ⟨none, .st (.t 24) (.t 16) 1, none⟩,
      ⟨(some 25), .nc (.t 10), none⟩,
      ⟨(some 26), .fa (.t 25) 1, none⟩,
      ⟨none, .st (.t 26) (.t 22) 1, none⟩])
  (.seq (.reg [⟨(some 2), .mv (.c (.d (.v (.bool true)))), none⟩])
  (.ret)))))
def r17 : List RC := [.t 2]

/-- (*spinet/spinetref15.Scope).Declare -/
def c18 : AC :=
  .seq (.reg [⟨(some 6), .mv (.c (.d (.v (.int .i64 0)))), none⟩])
  (.seq (.seq (.reg [⟨(some 8), .mv (.t 0), none⟩,
       ⟨(some 9), .eqp false (.t 8) (.c .nilp), none⟩])
   (.cond (.t 9) (.seq (.reg [⟨(some 6), .mv (.c (.d (.v (.int .i64 1)))), none⟩])
    (.ret)) (.skip)))
  (.seq (.reg [⟨(some 10), .mv (.t 0), none⟩,
      ⟨(some 11), .call 21 [(.t 10)], none⟩,
      ⟨(some 7), .mv (.t 11), none⟩])
  (.seq (.block 0 (.seq (.reg [⟨(some 13), .mv (.t 1), none⟩,
        ⟨(some 14), .call 27 [(.t 13)], none⟩,
        ⟨(some 15), .un .not (.t 14), none⟩,
        ⟨(some 12), .mv (.t 15), none⟩])
    (.cond (.t 12) (.seq (.reg [⟨(some 6), .mv (.c (.d (.v (.int .i64 150)))), none⟩])
     (.ret)) (.seq (.reg [⟨(some 17), .mv (.t 0), none⟩,
         ⟨(some 18), .nc (.t 17), none⟩,
         ⟨(some 19), .fa (.t 18) 0, none⟩,
         ⟨(some 20), .ld (.t 19) 1 false, none⟩,
         ⟨(some 21), .mv (.t 7), none⟩,
         ⟨(some 22), .ia (.t 20) (.t 21) 1, none⟩,
         ⟨(some 23), .ld (.t 22) 1 false, none⟩,
         ⟨(some 24), .mv (.t 1), none⟩,
         ⟨(some 25), .call 28 [(.t 23), (.t 24)], none⟩,
         ⟨(some 26), .bin .geq (.t 25) (.c (.d (.v (.int .i64 0)))), none⟩,
         ⟨(some 16), .mv (.t 26), none⟩])
     (.cond (.t 16) (.seq (.reg [⟨(some 6), .mv (.c (.d (.v (.int .i64 151)))), none⟩])
      (.ret)) (.seq (.reg [⟨(some 28), .mv (.t 0), none⟩,
          ⟨(some 29), .nc (.t 28), none⟩,
          ⟨(some 30), .fa (.t 29) 0, none⟩,
          ⟨(some 31), .ld (.t 30) 1 false, none⟩,
          ⟨(some 32), .mv (.t 7), none⟩,
          ⟨(some 33), .ia (.t 31) (.t 32) 1, none⟩,
          ⟨(some 34), .ld (.t 33) 1 false, none⟩,
          ⟨(some 35), .len false (.t 34), none⟩,
          ⟨(some 36), .bin .eql (.t 35) (.c (.d (.v (.int .i64 256)))), none⟩,
          ⟨(some 27), .mv (.t 36), none⟩])
      (.cond (.t 27) (.seq (.reg [⟨(some 6), .mv (.c (.d (.v (.int .i64 3)))), none⟩])
       (.ret)) (.skip))))))))
  (.seq (.dreg [[], [0], [1], [2], [], [], [5], [6], [7], [], [], [10], [11], [12], [], [13, 14], [15], [], [17], [16, 18], [], [20], [21], [22], [], [23, 24], [25], [], [27], [26, 28, 19], [3, 4, 0, 1, 2, 3, 4, 8, 10, 11, 12, 13, 14, 15, 16, 17, 18, 19, 23, 26, 29], [30, 19, 29, 0, 1, 2, 3, 4, 8, 10, 11, 12, 13, 14, 15, 16, 17, 18, 19, 23, 26, 29], [8, 9, 0, 1, 2, 3, 4, 5, 6, 7, 8, 9, 10, 11, 12, 13, 14, 15, 16, 17, 18, 19, 20, 21, 22, 23, 24, 25, 26, 27, 28, 29, 30, 31], [32, 29, 31, 0, 1, 2, 3, 4, 5, 6, 7, 8, 9, 10, 11, 12, 13, 14, 15, 16, 17, 18, 19, 20, 21, 22, 23, 24, 25, 26, 27, 28, 29, 30, 31]] [⟨(some 37), .mv (.t 0), none⟩,
      ⟨(some 38), .nc (.t 37), none⟩,
      ⟨(some 39), .fa (.t 38) 0, none⟩,
      ⟨(some 40), .ld (.t 39) 1 false, none⟩,
      ⟨(some 41), .mv (.t 7), none⟩,
      ⟨(some 42), .mv (.t 0), none⟩,
      ⟨(some 43), .nc (.t 42), none⟩,
      ⟨(some 44), .fa (.t 43) 1, none⟩,
      ⟨(some 45), .ld (.t 44) 1 false, none⟩,
      ⟨(some 46), .mv (.t 7), none⟩,
      ⟨(some 47), .mv (.t 0), none⟩,
      ⟨(some 48), .nc (.t 47), none⟩,
      ⟨(some 49), .fa (.t 48) 0, none⟩,
      ⟨(some 50), .ld (.t 49) 1 false, none⟩,
      ⟨(some 51), .mv (.t 7), none⟩,
      ⟨(some 52), .ia (.t 50) (.t 51) 1, none⟩,
      ⟨(some 53), .ld (.t 52) 1 false, none⟩,
      ⟨(some 54), .mv (.t 1), none⟩,
      ⟨(some 55), .bs .im 9 1 [(.t 54)], none⟩,
      ⟨(some 56), .app .gr 9 1 16 (.t 53) (.t 55), none⟩,
      ⟨(some 57), .mv (.t 0), none⟩,
      ⟨(some 58), .nc (.t 57), none⟩,
      ⟨(some 59), .fa (.t 58) 1, none⟩,
      ⟨(some 60), .ld (.t 59) 1 false, none⟩,
      ⟨(some 61), .mv (.t 7), none⟩,
      ⟨(some 62), .ia (.t 60) (.t 61) 1, none⟩,
      ⟨(some 63), .ld (.t 62) 1 false, none⟩,
      ⟨(some 64), .mv (.t 2), none⟩,
      ⟨(some 65), .bs .im 3 1 [(.t 64)], none⟩,
      ⟨(some 66), .app .gr 3 1 8 (.t 63) (.t 65), none⟩,
      ⟨(some 67), .ia (.t 40) (.t 41) 1, none⟩,
      ⟨none, .st (.t 67) (.t 56) 1, none⟩,
      ⟨(some 68), .ia (.t 45) (.t 46) 1, none⟩,
      ⟨none, .st (.t 68) (.t 66) 1, none⟩])
  (.seq (.reg [⟨(some 6), .mv (.c (.d (.v (.int .i64 0)))), none⟩])
  (.ret))))))
def r18 : List RC := [.t 6]

/-- spinet/spinetlaw15.made -/
def c19 : AC :=
  .seq (.reg [⟨(some 2), .mv (.c (.d (.v (.string ⟨#[]⟩)))), none⟩])
  (.seq (.reg [⟨(some 3), .mv (.t 0), none⟩,
      ⟨(some 4), .bin .quo (.t 3) (.c (.d (.v (.int .i64 26)))), none⟩,
      ⟨(some 5), .bin .rem (.t 4) (.c (.d (.v (.int .i64 26)))), none⟩,
      ⟨(some 6), .bin .add (.c (.d (.v (.int .i64 97)))) (.t 5), none⟩,
      ⟨(some 7), .cvi .u8 (.t 6), none⟩,
      ⟨(some 8), .mv (.t 0), none⟩,
      ⟨(some 9), .bin .rem (.t 8) (.c (.d (.v (.int .i64 26)))), none⟩,
      ⟨(some 10), .bin .add (.c (.d (.v (.int .i64 97)))) (.t 9), none⟩,
      ⟨(some 11), .cvi .u8 (.t 10), none⟩,
      ⟨(some 12), .mv (.t 0), none⟩,
      ⟨(some 13), .bin .quo (.t 12) (.c (.d (.v (.int .i64 676)))), none⟩,
      ⟨(some 14), .bin .rem (.t 13) (.c (.d (.v (.int .i64 26)))), none⟩,
      ⟨(some 15), .bin .add (.c (.d (.v (.int .i64 97)))) (.t 14), none⟩,
      ⟨(some 16), .cvi .u8 (.t 15), none⟩,
      ⟨(some 17), .bs .im 5 1 [(.c (.d (.v (.int .u8 109)))), (.t 7), (.t 11), (.t 16)], none⟩,
      ⟨(some 18), .b2s (.t 17), none⟩,
      ⟨(some 2), .mv (.t 18), none⟩])
  (.ret))
def r19 : List RC := [.t 2]

def c20l0 : AC :=
  .seq (.seq (.reg [⟨(some 11), .mv (.t 7), none⟩,
          ⟨(some 12), .bin .geq (.t 11) (.c (.d (.v (.int .i64 0)))), none⟩])
      (.cond (.t 12) (.skip) (.exit 0)))
     (.seq (.block 1 (.seq (.reg [⟨(some 15), .mv (.t 0), none⟩,
           ⟨(some 16), .nc (.t 15), none⟩,
           ⟨(some 17), .fa (.t 16) 0, none⟩,
           ⟨(some 18), .ld (.t 17) 1 false, none⟩,
           ⟨(some 19), .mv (.t 7), none⟩,
           ⟨(some 20), .ia (.t 18) (.t 19) 1, none⟩,
           ⟨(some 21), .ld (.t 20) 1 false, none⟩,
           ⟨(some 22), .mv (.t 1), none⟩,
           ⟨(some 23), .call 28 [(.t 21), (.t 22)], none⟩,
           ⟨(some 8), .mv (.t 23), none⟩])
       (.seq (.reg [⟨(some 24), .mv (.t 8), none⟩,
           ⟨(some 25), .bin .geq (.t 24) (.c (.d (.v (.int .i64 0)))), none⟩])
       (.cond (.t 25) (.seq (.reg [⟨(some 26), .mv (.t 0), none⟩,
            ⟨(some 27), .nc (.t 26), none⟩,
            ⟨(some 28), .fa (.t 27) 1, none⟩,
            ⟨(some 29), .ld (.t 28) 1 false, none⟩,
            ⟨(some 30), .mv (.t 7), none⟩,
            ⟨(some 31), .ia (.t 29) (.t 30) 1, none⟩,
            ⟨(some 32), .ld (.t 31) 1 false, none⟩,
            ⟨(some 33), .mv (.t 8), none⟩,
            ⟨(some 34), .ia (.t 32) (.t 33) 1, none⟩,
            ⟨(some 35), .ld (.t 34) 1 false, none⟩,
            ⟨(some 36), .mv (.t 7), none⟩,
            ⟨(some 4), .mv (.t 35), none⟩,
            ⟨(some 5), .mv (.t 36), none⟩,
            ⟨(some 6), .mv (.c (.d (.v (.bool true)))), none⟩])
        (.ret)) (.skip)))))
     (.reg [⟨(some 13), .mv (.t 7), none⟩,
        ⟨(some 14), .bin .sub (.t 13) (.c (.d (.v (.int .i64 1)))), none⟩,
        ⟨(some 7), .mv (.t 14), none⟩]))

/-- (*spinet/spinetref15.Scope).Find -/
def c20 : AC :=
  .seq (.reg [⟨(some 4), .mv (.c (.d (.v (.int .i64 0)))), none⟩,
      ⟨(some 5), .mv (.c (.d (.v (.int .i64 0)))), none⟩,
      ⟨(some 6), .mv (.c (.d (.v (.bool false)))), none⟩])
  (.seq (.seq (.reg [⟨(some 9), .mv (.t 0), none⟩,
       ⟨(some 10), .call 21 [(.t 9)], none⟩,
       ⟨(some 7), .mv (.t 10), none⟩])
   (.block 0 (.loop c20l0)))
  (.seq (.reg [⟨(some 4), .mv (.c (.d (.v (.int .i64 0)))), none⟩,
      ⟨(some 5), .mv (.c (.d (.v (.int .i64 0)))), none⟩,
      ⟨(some 6), .mv (.c (.d (.v (.bool false)))), none⟩])
  (.ret)))
def r20 : List RC := [.t 4, .t 5, .t 6]

/-- (*spinet/spinetref15.Scope).Depth -/
def c21 : AC :=
  .seq (.reg [⟨(some 2), .mv (.c (.d (.v (.int .i64 0)))), none⟩])
  (.seq (.seq (.reg [⟨(some 3), .mv (.t 0), none⟩,
       ⟨(some 4), .eqp false (.t 3) (.c .nilp), none⟩])
   (.cond (.t 4) (.seq (.reg [⟨(some 2), .mv (.c (.d (.v (.int .i64 (-1))))), none⟩])
    (.ret)) (.skip)))
  (.seq (.reg [⟨(some 5), .mv (.t 0), none⟩,
      ⟨(some 6), .nc (.t 5), none⟩,
      ⟨(some 7), .fa (.t 6) 0, none⟩,
      ⟨(some 8), .ld (.t 7) 1 false, none⟩,
      ⟨(some 9), .len false (.t 8), none⟩,
      ⟨(some 10), .bin .sub (.t 9) (.c (.d (.v (.int .i64 1)))), none⟩,
      ⟨(some 2), .mv (.t 10), none⟩])
  (.ret)))
def r21 : List RC := [.t 2]

def c22l0 : AC :=
  .seq (.seq (.reg [⟨(some 11), .mv (.t 5), none⟩,
          ⟨(some 12), .mv (.t 0), none⟩,
          ⟨(some 13), .len false (.t 12), none⟩,
          ⟨(some 14), .bin .lss (.t 11) (.t 13), none⟩])
      (.cond (.t 14) (.skip) (.exit 0)))
     (.seq (.block 1 (.seq (.dreg [[], [], [0, 1], [2], [], [], [4, 5], [6], [3, 7]] [⟨(some 17), .mv (.t 0), none⟩,
           ⟨(some 18), .mv (.t 5), none⟩,
           ⟨(some 19), .ia (.t 17) (.t 18) 1, none⟩,
           ⟨(some 20), .ld (.t 19) 1 false, none⟩,
           ⟨(some 21), .mv (.t 1), none⟩,
           ⟨(some 22), .mv (.t 5), none⟩,
           ⟨(some 23), .ia (.t 21) (.t 22) 1, none⟩,
           ⟨(some 24), .ld (.t 23) 1 false, none⟩,
           ⟨(some 25), .bin .neq (.t 20) (.t 24), none⟩])
       (.cond (.t 25) (.seq (.reg [⟨(some 4), .mv (.c (.d (.v (.bool false)))), none⟩])
        (.ret)) (.skip))))
     (.reg [⟨(some 15), .mv (.t 5), none⟩,
        ⟨(some 16), .bin .add (.t 15) (.c (.d (.v (.int .i64 1)))), none⟩,
        ⟨(some 5), .mv (.t 16), none⟩]))

/-- spinet/spinetkeep.Texts -/
def c22 : AC :=
  .seq (.reg [⟨(some 4), .mv (.c (.d (.v (.bool false)))), none⟩])
  (.seq (.seq (.reg [⟨(some 6), .mv (.t 0), none⟩,
       ⟨(some 7), .len false (.t 6), none⟩,
       ⟨(some 8), .mv (.t 1), none⟩,
       ⟨(some 9), .len false (.t 8), none⟩,
       ⟨(some 10), .bin .neq (.t 7) (.t 9), none⟩])
   (.cond (.t 10) (.seq (.reg [⟨(some 4), .mv (.c (.d (.v (.bool false)))), none⟩])
    (.ret)) (.skip)))
  (.seq (.seq (.reg [⟨(some 5), .mv (.c (.d (.v (.int .i64 0)))), none⟩])
   (.block 0 (.loop c22l0)))
  (.seq (.reg [⟨(some 4), .mv (.c (.d (.v (.bool true)))), none⟩])
  (.ret))))
def r22 : List RC := [.t 4]

/-- (*spinet/scope.Scope).Here -/
def c23 : AC :=
  .seq (.reg [⟨(some 2), .mv (.c .esl), none⟩])
  (.seq (.seq (.reg [⟨(some 3), .mv (.t 0), none⟩,
       ⟨(some 4), .eqp false (.t 3) (.c .nilp), none⟩])
   (.cond (.t 4) (.seq (.reg [⟨(some 2), .mv (.c .esl), none⟩])
    (.ret)) (.skip)))
  (.seq (.reg [⟨(some 5), .mv (.t 0), none⟩,
      ⟨(some 6), .call 26 [(.t 5)], none⟩,
      ⟨(some 7), .nc (.t 6), none⟩,
      ⟨(some 8), .ld (.t 7) 1 false, none⟩,
      ⟨(some 9), .app .im 9 1 16 (.c .esl) (.t 8), none⟩,
      ⟨(some 2), .mv (.t 9), none⟩])
  (.ret)))
def r23 : List RC := [.t 2]

/-- (*spinet/spinetref15.Scope).Here -/
def c24 : AC :=
  .seq (.reg [⟨(some 2), .mv (.c .esl), none⟩])
  (.seq (.seq (.reg [⟨(some 3), .mv (.t 0), none⟩,
       ⟨(some 4), .eqp false (.t 3) (.c .nilp), none⟩])
   (.cond (.t 4) (.seq (.reg [⟨(some 2), .mv (.c .esl), none⟩])
    (.ret)) (.skip)))
  (.seq (.dreg [[], [], [1], [2], [3], [], [5], [4, 6], [7], [0, 8, 6], [9, 9, 0, 1, 2, 3, 4, 5, 6, 7, 8, 9]] [⟨(some 5), .bs .gr 9 1 [], none⟩,
      ⟨(some 6), .mv (.t 0), none⟩,
      ⟨(some 7), .nc (.t 6), none⟩,
      ⟨(some 8), .fa (.t 7) 0, none⟩,
      ⟨(some 9), .ld (.t 8) 1 false, none⟩,
      ⟨(some 10), .mv (.t 0), none⟩,
      ⟨(some 11), .call 21 [(.t 10)], none⟩,
      ⟨(some 12), .ia (.t 9) (.t 11) 1, none⟩,
      ⟨(some 13), .ld (.t 12) 1 false, none⟩,
      ⟨(some 14), .app .gr 9 1 16 (.t 5) (.t 13), none⟩,
      ⟨(some 2), .mv (.t 14), none⟩])
  (.ret)))
def r24 : List RC := [.t 2]

def c25l0 : AC :=
  .seq (.reg [⟨(some 20), .bin .lss (.t 19) (.t 18), none⟩])
     (.seq (.cond (.t 20) (.skip) (.exit 0))
     (.seq (.block 1 (.seq (.reg [⟨(some 21), .mv (.t 19), none⟩,
           ⟨(some 3), .mv (.t 21), none⟩])
       (.seq (.reg [⟨(some 22), .mv (.t 0), none⟩,
           ⟨(some 23), .mv (.t 3), none⟩,
           ⟨(some 24), .ix (.t 22) (.t 23), none⟩,
           ⟨(some 4), .mv (.t 24), none⟩])
       (.seq (.reg [⟨(some 25), .mv (.t 4), none⟩,
           ⟨(some 26), .bin .lss (.t 25) (.c (.d (.v (.int .u8 97)))), none⟩,
           ⟨(some 27), .mv (.t 26), none⟩,
           ⟨(some 28), .mv (.t 4), (some (27, false))⟩,
           ⟨(some 29), .bin .gtr (.t 28) (.c (.d (.v (.int .u8 122)))), (some (27, false))⟩,
           ⟨(some 30), .pick (.t 27) (.c (.d (.v (.bool true)))) (.t 29), none⟩,
           ⟨(some 31), .mv (.t 30), none⟩,
           ⟨(some 32), .mv (.t 4), (some (31, true))⟩,
           ⟨(some 33), .bin .lss (.t 32) (.c (.d (.v (.int .u8 65)))), (some (31, true))⟩,
           ⟨(some 34), .mv (.t 33), (some (31, true))⟩,
           ⟨(some 35), .mv (.t 4), (some (34, false))⟩,
           ⟨(some 36), .bin .gtr (.t 35) (.c (.d (.v (.int .u8 90)))), (some (34, false))⟩,
           ⟨(some 37), .pick (.t 34) (.c (.d (.v (.bool true)))) (.t 36), (some (31, true))⟩,
           ⟨(some 38), .pick (.t 31) (.t 37) (.c (.d (.v (.bool false)))), none⟩,
           ⟨(some 39), .mv (.t 38), none⟩,
           ⟨(some 40), .mv (.t 4), (some (39, true))⟩,
           ⟨(some 41), .bin .lss (.t 40) (.c (.d (.v (.int .u8 48)))), (some (39, true))⟩,
           ⟨(some 42), .mv (.t 41), (some (39, true))⟩,
           ⟨(some 43), .mv (.t 4), (some (42, false))⟩,
           ⟨(some 44), .bin .gtr (.t 43) (.c (.d (.v (.int .u8 57)))), (some (42, false))⟩,
           ⟨(some 45), .pick (.t 42) (.c (.d (.v (.bool true)))) (.t 44), (some (39, true))⟩,
           ⟨(some 46), .pick (.t 39) (.t 45) (.c (.d (.v (.bool false)))), none⟩])
       (.cond (.t 46) (.seq (.reg [⟨(some 2), .mv (.c (.d (.v (.bool false)))), none⟩])
        (.ret)) (.skip))))))
     (.reg [⟨(some 47), .bin .add (.t 19) (.c (.d (.v (.int .i64 1)))), none⟩,
        ⟨(some 19), .mv (.t 47), none⟩])))

/-- spinet/scope.named -/
def c25 : AC :=
  .seq (.reg [⟨(some 2), .mv (.c (.d (.v (.bool false)))), none⟩])
  (.seq (.seq (.reg [⟨(some 5), .mv (.t 0), none⟩,
       ⟨(some 6), .bin .eql (.t 5) (.c (.d (.v (.string ⟨#[]⟩)))), none⟩,
       ⟨(some 7), .mv (.t 6), none⟩,
       ⟨(some 8), .mv (.t 0), (some (7, false))⟩,
       ⟨(some 9), .len true (.t 8), (some (7, false))⟩,
       ⟨(some 10), .bin .gtr (.t 9) (.c (.d (.v (.int .i64 24)))), (some (7, false))⟩,
       ⟨(some 11), .pick (.t 7) (.c (.d (.v (.bool true)))) (.t 10), none⟩,
       ⟨(some 12), .mv (.t 11), none⟩,
       ⟨(some 13), .mv (.t 0), (some (12, false))⟩,
       ⟨(some 14), .ix (.t 13) (.c (.d (.v (.int .i64 0)))), (some (12, false))⟩,
       ⟨(some 15), .bin .leq (.t 14) (.c (.d (.v (.int .u8 57)))), (some (12, false))⟩,
       ⟨(some 16), .pick (.t 12) (.c (.d (.v (.bool true)))) (.t 15), none⟩])
   (.cond (.t 16) (.seq (.reg [⟨(some 2), .mv (.c (.d (.v (.bool false)))), none⟩])
    (.ret)) (.skip)))
  (.seq (.seq (.reg [⟨(some 17), .mv (.t 0), none⟩,
       ⟨(some 18), .len true (.t 17), none⟩,
       ⟨(some 19), .mv (.c (.d (.v (.int .i64 0)))), none⟩])
   (.block 0 (.loop c25l0)))
  (.seq (.reg [⟨(some 2), .mv (.c (.d (.v (.bool true)))), none⟩])
  (.ret))))
def r25 : List RC := [.t 2]

/-- (*spinet/scope.Scope).here -/
def c26 : AC :=
  .seq (.reg [⟨(some 2), .mv (.c .nilp), none⟩])
  (.seq (.seq (.reg [⟨(some 4), .mv (.t 0), none⟩,
       ⟨(some 5), .nc (.t 4), none⟩,
       ⟨(some 6), .fa (.t 5) 1, none⟩,
       ⟨(some 7), .ld (.t 6) 1 false, none⟩,
       ⟨(some 8), .len false (.t 7), none⟩,
       ⟨(some 3), .mv (.t 8), none⟩])
   (.seq (.reg [⟨(some 9), .mv (.t 3), none⟩,
       ⟨(some 10), .bin .gtr (.t 9) (.c (.d (.v (.int .i64 0)))), none⟩])
   (.cond (.t 10) (.seq (.reg [⟨(some 11), .mv (.t 0), none⟩,
        ⟨(some 12), .nc (.t 11), none⟩,
        ⟨(some 13), .fa (.t 12) 1, none⟩,
        ⟨(some 14), .ld (.t 13) 1 false, none⟩,
        ⟨(some 15), .mv (.t 3), none⟩,
        ⟨(some 16), .bin .sub (.t 15) (.c (.d (.v (.int .i64 1)))), none⟩,
        ⟨(some 17), .ia (.t 14) (.t 16) 1, none⟩,
        ⟨(some 2), .mv (.t 17), none⟩])
    (.ret)) (.skip))))
  (.seq (.reg [⟨(some 18), .mv (.t 0), none⟩,
      ⟨(some 19), .nc (.t 18), none⟩,
      ⟨(some 20), .fa (.t 19) 2, none⟩,
      ⟨(some 2), .mv (.t 20), none⟩])
  (.ret)))
def r26 : List RC := [.t 2]

def c27l0 : AC :=
  .seq (.seq (.reg [⟨(some 18), .mv (.t 3), none⟩,
          ⟨(some 19), .mv (.t 0), none⟩,
          ⟨(some 20), .len true (.t 19), none⟩,
          ⟨(some 21), .bin .lss (.t 18) (.t 20), none⟩])
      (.cond (.t 21) (.skip) (.exit 0)))
     (.seq (.block 1 (.seq (.reg [⟨(some 24), .mv (.t 0), none⟩,
           ⟨(some 25), .mv (.t 3), none⟩,
           ⟨(some 26), .ix (.t 24) (.t 25), none⟩,
           ⟨(some 27), .call 29 [(.t 26)], none⟩,
           ⟨(some 28), .un .not (.t 27), none⟩,
           ⟨(some 29), .mv (.t 28), none⟩,
           ⟨(some 30), .mv (.t 0), (some (29, true))⟩,
           ⟨(some 31), .mv (.t 3), (some (29, true))⟩,
           ⟨(some 32), .ix (.t 30) (.t 31), (some (29, true))⟩,
           ⟨(some 33), .call 30 [(.t 32)], (some (29, true))⟩,
           ⟨(some 34), .un .not (.t 33), (some (29, true))⟩,
           ⟨(some 35), .pick (.t 29) (.t 34) (.c (.d (.v (.bool false)))), none⟩])
       (.cond (.t 35) (.seq (.reg [⟨(some 2), .mv (.c (.d (.v (.bool false)))), none⟩])
        (.ret)) (.skip))))
     (.reg [⟨(some 22), .mv (.t 3), none⟩,
        ⟨(some 23), .bin .add (.t 22) (.c (.d (.v (.int .i64 1)))), none⟩,
        ⟨(some 3), .mv (.t 23), none⟩]))

/-- spinet/spinetref09.Word -/
def c27 : AC :=
  .seq (.reg [⟨(some 2), .mv (.c (.d (.v (.bool false)))), none⟩])
  (.seq (.seq (.reg [⟨(some 4), .mv (.t 0), none⟩,
       ⟨(some 5), .len true (.t 4), none⟩,
       ⟨(some 6), .bin .lss (.t 5) (.c (.d (.v (.int .i64 1)))), none⟩,
       ⟨(some 7), .mv (.t 6), none⟩,
       ⟨(some 8), .mv (.t 0), (some (7, false))⟩,
       ⟨(some 9), .len true (.t 8), (some (7, false))⟩,
       ⟨(some 10), .bin .gtr (.t 9) (.c (.d (.v (.int .i64 24)))), (some (7, false))⟩,
       ⟨(some 11), .pick (.t 7) (.c (.d (.v (.bool true)))) (.t 10), none⟩,
       ⟨(some 12), .mv (.t 11), none⟩,
       ⟨(some 13), .mv (.t 0), (some (12, false))⟩,
       ⟨(some 14), .ix (.t 13) (.c (.d (.v (.int .i64 0)))), (some (12, false))⟩,
       ⟨(some 15), .call 29 [(.t 14)], (some (12, false))⟩,
       ⟨(some 16), .un .not (.t 15), (some (12, false))⟩,
       ⟨(some 17), .pick (.t 12) (.c (.d (.v (.bool true)))) (.t 16), none⟩])
   (.cond (.t 17) (.seq (.reg [⟨(some 2), .mv (.c (.d (.v (.bool false)))), none⟩])
    (.ret)) (.skip)))
  (.seq (.seq (.reg [⟨(some 3), .mv (.c (.d (.v (.int .i64 1)))), none⟩])
   (.block 0 (.loop c27l0)))
  (.seq (.reg [⟨(some 2), .mv (.c (.d (.v (.bool true)))), none⟩])
  (.ret))))
def r27 : List RC := [.t 2]

def c28l0 : AC :=
  .seq (.seq (.reg [⟨(some 6), .mv (.t 5), none⟩,
          ⟨(some 7), .mv (.t 0), none⟩,
          ⟨(some 8), .len false (.t 7), none⟩,
          ⟨(some 9), .bin .lss (.t 6) (.t 8), none⟩])
      (.cond (.t 9) (.skip) (.exit 0)))
     (.seq (.block 1 (.seq (.reg [⟨(some 12), .mv (.t 0), none⟩,
           ⟨(some 13), .mv (.t 5), none⟩,
           ⟨(some 14), .ia (.t 12) (.t 13) 1, none⟩,
           ⟨(some 15), .ld (.t 14) 1 false, none⟩,
           ⟨(some 16), .mv (.t 1), none⟩,
           ⟨(some 17), .bin .eql (.t 15) (.t 16), none⟩])
       (.cond (.t 17) (.seq (.reg [⟨(some 18), .mv (.t 5), none⟩,
            ⟨(some 4), .mv (.t 18), none⟩])
        (.ret)) (.skip))))
     (.reg [⟨(some 10), .mv (.t 5), none⟩,
        ⟨(some 11), .bin .add (.t 10) (.c (.d (.v (.int .i64 1)))), none⟩,
        ⟨(some 5), .mv (.t 11), none⟩]))

/-- spinet/spinetref15.index -/
def c28 : AC :=
  .seq (.reg [⟨(some 4), .mv (.c (.d (.v (.int .i64 0)))), none⟩])
  (.seq (.seq (.reg [⟨(some 5), .mv (.c (.d (.v (.int .i64 0)))), none⟩])
   (.block 0 (.loop c28l0)))
  (.seq (.reg [⟨(some 4), .mv (.c (.d (.v (.int .i64 (-1))))), none⟩])
  (.ret)))
def r28 : List RC := [.t 4]

/-- spinet/spinetref09.letter -/
def c29 : AC :=
  .seq (.reg [⟨(some 2), .mv (.c (.d (.v (.bool false)))), none⟩])
  (.seq (.reg [⟨(some 3), .mv (.t 0), none⟩,
      ⟨(some 4), .bin .geq (.t 3) (.c (.d (.v (.int .u8 97)))), none⟩,
      ⟨(some 5), .mv (.t 4), none⟩,
      ⟨(some 6), .mv (.t 0), (some (5, true))⟩,
      ⟨(some 7), .bin .leq (.t 6) (.c (.d (.v (.int .u8 122)))), (some (5, true))⟩,
      ⟨(some 8), .pick (.t 5) (.t 7) (.c (.d (.v (.bool false)))), none⟩,
      ⟨(some 9), .mv (.t 8), none⟩,
      ⟨(some 10), .mv (.t 0), (some (9, false))⟩,
      ⟨(some 11), .bin .geq (.t 10) (.c (.d (.v (.int .u8 65)))), (some (9, false))⟩,
      ⟨(some 12), .mv (.t 11), (some (9, false))⟩,
      ⟨(some 13), .mv (.t 0), (some (12, true))⟩,
      ⟨(some 14), .bin .leq (.t 13) (.c (.d (.v (.int .u8 90)))), (some (12, true))⟩,
      ⟨(some 15), .pick (.t 12) (.t 14) (.c (.d (.v (.bool false)))), (some (9, false))⟩,
      ⟨(some 16), .pick (.t 9) (.c (.d (.v (.bool true)))) (.t 15), none⟩,
      ⟨(some 2), .mv (.t 16), none⟩])
  (.ret))
def r29 : List RC := [.t 2]

/-- spinet/spinetref09.digit -/
def c30 : AC :=
  .seq (.reg [⟨(some 2), .mv (.c (.d (.v (.bool false)))), none⟩])
  (.seq (.reg [⟨(some 3), .mv (.t 0), none⟩,
      ⟨(some 4), .bin .geq (.t 3) (.c (.d (.v (.int .u8 48)))), none⟩,
      ⟨(some 5), .mv (.t 4), none⟩,
      ⟨(some 6), .mv (.t 0), (some (5, true))⟩,
      ⟨(some 7), .bin .leq (.t 6) (.c (.d (.v (.int .u8 57)))), (some (5, true))⟩,
      ⟨(some 8), .pick (.t 5) (.t 7) (.c (.d (.v (.bool false)))), none⟩,
      ⟨(some 2), .mv (.t 8), none⟩])
  (.ret))
def r30 : List RC := [.t 2]

theorem cc3 : Try.f3.body.bind (comp Try.prog (hh 3)) = some c3 := by kernel_rfl
theorem rr3 : resC Try.prog Try.f3 = some r3 := by kernel_rfl
theorem cc4 : Try.f4.body.bind (comp Try.prog (hh 4)) = some c4 := by kernel_rfl
theorem rr4 : resC Try.prog Try.f4 = some r4 := by kernel_rfl
theorem cc5 : Try.f5.body.bind (comp Try.prog (hh 5)) = some c5 := by kernel_rfl
theorem rr5 : resC Try.prog Try.f5 = some r5 := by kernel_rfl
theorem cc6 : Try.f6.body.bind (comp Try.prog (hh 6)) = some c6 := by kernel_rfl
theorem rr6 : resC Try.prog Try.f6 = some r6 := by kernel_rfl
theorem cc7 : Try.f7.body.bind (comp Try.prog (hh 7)) = some c7 := by kernel_rfl
theorem rr7 : resC Try.prog Try.f7 = some r7 := by kernel_rfl
theorem cc8 : Try.f8.body.bind (comp Try.prog (hh 8)) = some c8 := by kernel_rfl
theorem rr8 : resC Try.prog Try.f8 = some r8 := by kernel_rfl
theorem cc9 : Try.f9.body.bind (comp Try.prog (hh 9)) = some c9 := by kernel_rfl
theorem rr9 : resC Try.prog Try.f9 = some r9 := by kernel_rfl
theorem cc10 : Try.f10.body.bind (comp Try.prog (hh 10)) = some c10 := by kernel_rfl
theorem rr10 : resC Try.prog Try.f10 = some r10 := by kernel_rfl
theorem cc11 : Try.f11.body.bind (comp Try.prog (hh 11)) = some c11 := by kernel_rfl
theorem rr11 : resC Try.prog Try.f11 = some r11 := by kernel_rfl
theorem cc12 : Try.f12.body.bind (comp Try.prog (hh 12)) = some c12 := by kernel_rfl
theorem rr12 : resC Try.prog Try.f12 = some r12 := by kernel_rfl
theorem cc13 : Try.f13.body.bind (comp Try.prog (hh 13)) = some c13 := by kernel_rfl
theorem rr13 : resC Try.prog Try.f13 = some r13 := by kernel_rfl
theorem cc14 : Try.f14.body.bind (comp Try.prog (hh 14)) = some c14 := by kernel_rfl
theorem rr14 : resC Try.prog Try.f14 = some r14 := by kernel_rfl
theorem cc15 : Try.f15.body.bind (comp Try.prog (hh 15)) = some c15 := by kernel_rfl
theorem rr15 : resC Try.prog Try.f15 = some r15 := by kernel_rfl
theorem cc16 : Try.f16.body.bind (comp Try.prog (hh 16)) = some c16 := by kernel_rfl
theorem rr16 : resC Try.prog Try.f16 = some r16 := by kernel_rfl
theorem cc17 : Try.f17.body.bind (comp Try.prog (hh 17)) = some c17 := by kernel_rfl
theorem rr17 : resC Try.prog Try.f17 = some r17 := by kernel_rfl
theorem cc18 : Try.f18.body.bind (comp Try.prog (hh 18)) = some c18 := by kernel_rfl
theorem rr18 : resC Try.prog Try.f18 = some r18 := by kernel_rfl
theorem cc19 : Try.f19.body.bind (comp Try.prog (hh 19)) = some c19 := by kernel_rfl
theorem rr19 : resC Try.prog Try.f19 = some r19 := by kernel_rfl
theorem cc20 : Try.f20.body.bind (comp Try.prog (hh 20)) = some c20 := by kernel_rfl
theorem rr20 : resC Try.prog Try.f20 = some r20 := by kernel_rfl
theorem cc21 : Try.f21.body.bind (comp Try.prog (hh 21)) = some c21 := by kernel_rfl
theorem rr21 : resC Try.prog Try.f21 = some r21 := by kernel_rfl
theorem cc22 : Try.f22.body.bind (comp Try.prog (hh 22)) = some c22 := by kernel_rfl
theorem rr22 : resC Try.prog Try.f22 = some r22 := by kernel_rfl
theorem cc23 : Try.f23.body.bind (comp Try.prog (hh 23)) = some c23 := by kernel_rfl
theorem rr23 : resC Try.prog Try.f23 = some r23 := by kernel_rfl
theorem cc24 : Try.f24.body.bind (comp Try.prog (hh 24)) = some c24 := by kernel_rfl
theorem rr24 : resC Try.prog Try.f24 = some r24 := by kernel_rfl
theorem cc25 : Try.f25.body.bind (comp Try.prog (hh 25)) = some c25 := by kernel_rfl
theorem rr25 : resC Try.prog Try.f25 = some r25 := by kernel_rfl
theorem cc26 : Try.f26.body.bind (comp Try.prog (hh 26)) = some c26 := by kernel_rfl
theorem rr26 : resC Try.prog Try.f26 = some r26 := by kernel_rfl
theorem cc27 : Try.f27.body.bind (comp Try.prog (hh 27)) = some c27 := by kernel_rfl
theorem rr27 : resC Try.prog Try.f27 = some r27 := by kernel_rfl
theorem cc28 : Try.f28.body.bind (comp Try.prog (hh 28)) = some c28 := by kernel_rfl
theorem rr28 : resC Try.prog Try.f28 = some r28 := by kernel_rfl
theorem cc29 : Try.f29.body.bind (comp Try.prog (hh 29)) = some c29 := by kernel_rfl
theorem rr29 : resC Try.prog Try.f29 = some r29 := by kernel_rfl
theorem cc30 : Try.f30.body.bind (comp Try.prog (hh 30)) = some c30 := by kernel_rfl
theorem rr30 : resC Try.prog Try.f30 = some r30 := by kernel_rfl
end Go.Proofs.Ythgffjaiklmbcaa
