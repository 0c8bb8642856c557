/-
  IRs of functions, printed by a program of mine (wip/tools/mkir.sh, ev.lean.txt); each is checked by the kernel against the executor.
-/
import Derived.Test.YtebcdcdcefhdfaaDoorRun
import Derived.Test.YtebcdcdcefhdfaaDoorProg
namespace Go.Proofs.YtebcdcdcefhdfaaDoor.Sx
open Go
set_option maxRecDepth 100000
noncomputable def envIrSet : Env := { P := Tryd.prog, G := gAll, inl := [28,39,32,29,45], unr := [39] }

/-- atlas/atlaslaw13.SetDoes -/
def atlaslaw13_SetDoes_ir : IR :=
  (.call 7 [] [(false, 1)]
  (.lt (.un .not (.v 61)) (.ite (.v 62)
  (.ret [(false, [(.c (.b false))])])
  (.call 8 [(true, [(.v 0), (.v 1), (.v 2), (.v 3), (.v 4), (.v 5), (.v 6), (.v 7), (.v 8), (.v 9), (.v 10), (.v 11), (.v 12), (.v 13), (.v 14), (.v 15), (.v 16), (.v 17), (.v 18), (.v 19), (.v 20), (.v 21), (.v 22), (.v 23), (.v 24), (.v 25), (.v 26), (.v 27), (.v 28), (.v 29), (.v 30), (.v 31), (.v 32), (.v 33), (.v 34), (.v 35), (.v 36), (.v 37), (.v 38), (.v 39), (.v 40), (.v 41), (.v 42), (.v 43), (.v 44)])] [(false, 1)]
  (.call 9 [(true, [(.v 0), (.v 1), (.v 2), (.v 3), (.v 4), (.v 5), (.v 6), (.v 7), (.v 8), (.v 9), (.v 10), (.v 11), (.v 12), (.v 13), (.v 14), (.v 15), (.v 16), (.v 17), (.v 18), (.v 19), (.v 20), (.v 21), (.v 22), (.v 23), (.v 24), (.v 25), (.v 26), (.v 27), (.v 28), (.v 29), (.v 30), (.v 31), (.v 32), (.v 33), (.v 34), (.v 35), (.v 36), (.v 37), (.v 38), (.v 39), (.v 40), (.v 41), (.v 42), (.v 43), (.v 44)])] [(false, 1)]
  (.lt (.un .not (.eqt true (.v 63) (.v 64))) (.ite (.v 65)
  (.call 8 [(true, [(.v 0), (.v 1), (.v 2), (.v 3), (.v 4), (.v 5), (.v 6), (.v 7), (.v 8), (.v 9), (.v 10), (.v 11), (.v 12), (.v 13), (.v 14), (.v 15), (.v 16), (.v 17), (.v 18), (.v 19), (.v 20), (.v 21), (.v 22), (.v 23), (.v 24), (.v 25), (.v 26), (.v 27), (.v 28), (.v 29), (.v 30), (.v 31), (.v 32), (.v 33), (.v 34), (.v 35), (.v 36), (.v 37), (.v 38), (.v 39), (.v 40), (.v 41), (.v 42), (.v 43), (.v 44)])] [(false, 1)]
  (.call 9 [(true, [(.v 0), (.v 1), (.v 2), (.v 3), (.v 4), (.v 5), (.v 6), (.v 7), (.v 8), (.v 9), (.v 10), (.v 11), (.v 12), (.v 13), (.v 14), (.v 15), (.v 16), (.v 17), (.v 18), (.v 19), (.v 20), (.v 21), (.v 22), (.v 23), (.v 24), (.v 25), (.v 26), (.v 27), (.v 28), (.v 29), (.v 30), (.v 31), (.v 32), (.v 33), (.v 34), (.v 35), (.v 36), (.v 37), (.v 38), (.v 39), (.v 40), (.v 41), (.v 42), (.v 43), (.v 44)])] [(false, 1)]
  (.lt (.eqt true (.v 66) (.v 67)) (.ret [(false, [(.v 68)])]))))
  (.call 9 [(true, [(.v 0), (.v 1), (.v 2), (.v 3), (.v 4), (.v 5), (.v 6), (.v 7), (.v 8), (.v 9), (.v 10), (.v 11), (.v 12), (.v 13), (.v 14), (.v 15), (.v 16), (.v 17), (.v 18), (.v 19), (.v 20), (.v 21), (.v 22), (.v 23), (.v 24), (.v 25), (.v 26), (.v 27), (.v 28), (.v 29), (.v 30), (.v 31), (.v 32), (.v 33), (.v 34), (.v 35), (.v 36), (.v 37), (.v 38), (.v 39), (.v 40), (.v 41), (.v 42), (.v 43), (.v 44)])] [(false, 1)]
  (.lt (.un .not (.v 66)) (.ite (.v 67)
  (.call 8 [(true, [(.v 0), (.v 1), (.v 2), (.v 3), (.v 4), (.v 5), (.v 6), (.v 7), (.v 8), (.v 9), (.v 10), (.v 11), (.v 12), (.v 13), (.v 14), (.v 15), (.v 16), (.v 17), (.v 18), (.v 19), (.v 20), (.v 21), (.v 22), (.v 23), (.v 24), (.v 25), (.v 26), (.v 27), (.v 28), (.v 29), (.v 30), (.v 31), (.v 32), (.v 33), (.v 34), (.v 35), (.v 36), (.v 37), (.v 38), (.v 39), (.v 40), (.v 41), (.v 42), (.v 43), (.v 44)])] [(false, 1)]
  (.call 9 [(true, [(.v 0), (.v 1), (.v 2), (.v 3), (.v 4), (.v 5), (.v 6), (.v 7), (.v 8), (.v 9), (.v 10), (.v 11), (.v 12), (.v 13), (.v 14), (.v 15), (.v 16), (.v 17), (.v 18), (.v 19), (.v 20), (.v 21), (.v 22), (.v 23), (.v 24), (.v 25), (.v 26), (.v 27), (.v 28), (.v 29), (.v 30), (.v 31), (.v 32), (.v 33), (.v 34), (.v 35), (.v 36), (.v 37), (.v 38), (.v 39), (.v 40), (.v 41), (.v 42), (.v 43), (.v 44)])] [(false, 1)]
  (.lt (.eqt true (.v 68) (.v 69)) (.ret [(false, [(.v 70)])]))))
  (.call 10 [(true, [(.v 45), (.v 46), (.v 47), (.v 48), (.v 49), (.v 50), (.v 51), (.v 52), (.v 53), (.v 54), (.v 55)])] [(false, 1)]
  (.lt (.un .not (.v 68)) (.ite (.v 69)
  (.call 8 [(true, [(.v 0), (.v 1), (.v 2), (.v 3), (.v 4), (.v 5), (.v 6), (.v 7), (.v 8), (.v 9), (.v 10), (.v 11), (.v 12), (.v 13), (.v 14), (.v 15), (.v 16), (.v 17), (.v 18), (.v 19), (.v 20), (.v 21), (.v 22), (.v 23), (.v 24), (.v 25), (.v 26), (.v 27), (.v 28), (.v 29), (.v 30), (.v 31), (.v 32), (.v 33), (.v 34), (.v 35), (.v 36), (.v 37), (.v 38), (.v 39), (.v 40), (.v 41), (.v 42), (.v 43), (.v 44)])] [(false, 1)]
  (.call 9 [(true, [(.v 0), (.v 1), (.v 2), (.v 3), (.v 4), (.v 5), (.v 6), (.v 7), (.v 8), (.v 9), (.v 10), (.v 11), (.v 12), (.v 13), (.v 14), (.v 15), (.v 16), (.v 17), (.v 18), (.v 19), (.v 20), (.v 21), (.v 22), (.v 23), (.v 24), (.v 25), (.v 26), (.v 27), (.v 28), (.v 29), (.v 30), (.v 31), (.v 32), (.v 33), (.v 34), (.v 35), (.v 36), (.v 37), (.v 38), (.v 39), (.v 40), (.v 41), (.v 42), (.v 43), (.v 44)])] [(false, 1)]
  (.lt (.eqt true (.v 70) (.v 71)) (.ret [(false, [(.v 72)])]))))
  (.call 11 [(false, [(.v 59)])] [(false, 1)]
  (.lt (.un .not (.v 70)) (.ite (.v 71)
  (.call 8 [(true, [(.v 0), (.v 1), (.v 2), (.v 3), (.v 4), (.v 5), (.v 6), (.v 7), (.v 8), (.v 9), (.v 10), (.v 11), (.v 12), (.v 13), (.v 14), (.v 15), (.v 16), (.v 17), (.v 18), (.v 19), (.v 20), (.v 21), (.v 22), (.v 23), (.v 24), (.v 25), (.v 26), (.v 27), (.v 28), (.v 29), (.v 30), (.v 31), (.v 32), (.v 33), (.v 34), (.v 35), (.v 36), (.v 37), (.v 38), (.v 39), (.v 40), (.v 41), (.v 42), (.v 43), (.v 44)])] [(false, 1)]
  (.call 9 [(true, [(.v 0), (.v 1), (.v 2), (.v 3), (.v 4), (.v 5), (.v 6), (.v 7), (.v 8), (.v 9), (.v 10), (.v 11), (.v 12), (.v 13), (.v 14), (.v 15), (.v 16), (.v 17), (.v 18), (.v 19), (.v 20), (.v 21), (.v 22), (.v 23), (.v 24), (.v 25), (.v 26), (.v 27), (.v 28), (.v 29), (.v 30), (.v 31), (.v 32), (.v 33), (.v 34), (.v 35), (.v 36), (.v 37), (.v 38), (.v 39), (.v 40), (.v 41), (.v 42), (.v 43), (.v 44)])] [(false, 1)]
  (.lt (.eqt true (.v 72) (.v 73)) (.ret [(false, [(.v 74)])]))))
  (.lt (.bin .rem (.v 57) (.c (.i .u8 4))) (.lt (.cv .i64 (.v 72)) (.lt (.bin .rem (.v 60) (.c (.i .u8 3))) (.lt (.cv .i64 (.v 74)) (.call 12 [(true, [(.v 0), (.v 1), (.v 2), (.v 3), (.v 4), (.v 5), (.v 6), (.v 7), (.v 8), (.v 9), (.v 10), (.v 11), (.v 12), (.v 13), (.v 14), (.v 15), (.v 16), (.v 17), (.v 18), (.v 19), (.v 20), (.v 21), (.v 22), (.v 23), (.v 24), (.v 25), (.v 26), (.v 27), (.v 28), (.v 29), (.v 30), (.v 31), (.v 32), (.v 33), (.v 34), (.v 35), (.v 36), (.v 37), (.v 38), (.v 39), (.v 40), (.v 41), (.v 42), (.v 43), (.v 44)]), (false, [(.v 58)]), (false, [(.v 59)]), (false, [(.v 75)])] [(false, 1), (false, 1)]
  (.lt (.bin .rem (.v 60) (.c (.i .u8 3))) (.lt (.cv .i64 (.v 78)) (.call 13 [(true, [(.v 0), (.v 1), (.v 2), (.v 3), (.v 4), (.v 5), (.v 6), (.v 7), (.v 8), (.v 9), (.v 10), (.v 11), (.v 12), (.v 13), (.v 14), (.v 15), (.v 16), (.v 17), (.v 18), (.v 19), (.v 20), (.v 21), (.v 22), (.v 23), (.v 24), (.v 25), (.v 26), (.v 27), (.v 28), (.v 29), (.v 30), (.v 31), (.v 32), (.v 33), (.v 34), (.v 35), (.v 36), (.v 37), (.v 38), (.v 39), (.v 40), (.v 41), (.v 42), (.v 43), (.v 44)]), (false, [(.v 58)]), (false, [(.v 59)]), (false, [(.v 79)])] [(false, 1), (false, 1)]
  (.lt (.bin .neq (.v 76) (.v 80)) (.ite (.v 82)
  (.ret [(false, [(.c (.b false))])])
  (.lt (.un .not (.eqt true (.v 77) (.v 81))) (.ite (.v 83)
  (.ret [(false, [(.c (.b false))])])
  (.call 14 [(true, [(.v 0), (.v 1), (.v 2), (.v 3), (.v 4), (.v 5), (.v 6), (.v 7), (.v 8), (.v 9), (.v 10), (.v 11), (.v 12), (.v 13), (.v 14), (.v 15), (.v 16), (.v 17), (.v 18), (.v 19), (.v 20), (.v 21), (.v 22), (.v 23), (.v 24), (.v 25), (.v 26), (.v 27), (.v 28), (.v 29), (.v 30), (.v 31), (.v 32), (.v 33), (.v 34), (.v 35), (.v 36), (.v 37), (.v 38), (.v 39), (.v 40), (.v 41), (.v 42), (.v 43), (.v 44)]), (false, [(.v 73)])] [(true, 45)]
  (.call 15 [(true, [(.v 0), (.v 1), (.v 2), (.v 3), (.v 4), (.v 5), (.v 6), (.v 7), (.v 8), (.v 9), (.v 10), (.v 11), (.v 12), (.v 13), (.v 14), (.v 15), (.v 16), (.v 17), (.v 18), (.v 19), (.v 20), (.v 21), (.v 22), (.v 23), (.v 24), (.v 25), (.v 26), (.v 27), (.v 28), (.v 29), (.v 30), (.v 31), (.v 32), (.v 33), (.v 34), (.v 35), (.v 36), (.v 37), (.v 38), (.v 39), (.v 40), (.v 41), (.v 42), (.v 43), (.v 44)]), (false, [(.v 73)])] [(true, 45)]
  (.lt (.un .not (.ite (.eqt true (.v 84) (.v 129)) (.ite (.eqt false (.v 85) (.v 130)) (.ite (.eqt true (.v 86) (.v 131)) (.ite (.eqt false (.v 87) (.v 132)) (.ite (.eqt false (.v 88) (.v 133)) (.ite (.eqt false (.v 89) (.v 134)) (.ite (.eqt true (.v 90) (.v 135)) (.ite (.eqt true (.v 91) (.v 136)) (.ite (.eqt true (.v 92) (.v 137)) (.ite (.eqt true (.v 93) (.v 138)) (.ite (.eqt true (.v 94) (.v 139)) (.ite (.eqt true (.v 95) (.v 140)) (.ite (.eqt false (.v 96) (.v 141)) (.ite (.eqt true (.v 97) (.v 142)) (.ite (.eqt false (.v 98) (.v 143)) (.ite (.eqt false (.v 99) (.v 144)) (.ite (.eqt false (.v 100) (.v 145)) (.ite (.eqt true (.v 101) (.v 146)) (.ite (.eqt true (.v 102) (.v 147)) (.ite (.eqt true (.v 103) (.v 148)) (.ite (.eqt true (.v 104) (.v 149)) (.ite (.eqt true (.v 105) (.v 150)) (.ite (.eqt true (.v 106) (.v 151)) (.ite (.eqt false (.v 107) (.v 152)) (.ite (.eqt true (.v 108) (.v 153)) (.ite (.eqt false (.v 109) (.v 154)) (.ite (.eqt false (.v 110) (.v 155)) (.ite (.eqt false (.v 111) (.v 156)) (.ite (.eqt true (.v 112) (.v 157)) (.ite (.eqt true (.v 113) (.v 158)) (.ite (.eqt true (.v 114) (.v 159)) (.ite (.eqt true (.v 115) (.v 160)) (.ite (.eqt true (.v 116) (.v 161)) (.ite (.eqt true (.v 117) (.v 162)) (.ite (.eqt false (.v 118) (.v 163)) (.ite (.eqt true (.v 119) (.v 164)) (.ite (.eqt false (.v 120) (.v 165)) (.ite (.eqt false (.v 121) (.v 166)) (.ite (.eqt false (.v 122) (.v 167)) (.ite (.eqt true (.v 123) (.v 168)) (.ite (.eqt true (.v 124) (.v 169)) (.ite (.eqt true (.v 125) (.v 170)) (.ite (.eqt true (.v 126) (.v 171)) (.ite (.eqt true (.v 127) (.v 172)) (.ite (.eqt false (.v 128) (.v 173)) (.c (.b true)) (.c (.b false))) (.c (.b false))) (.c (.b false))) (.c (.b false))) (.c (.b false))) (.c (.b false))) (.c (.b false))) (.c (.b false))) (.c (.b false))) (.c (.b false))) (.c (.b false))) (.c (.b false))) (.c (.b false))) (.c (.b false))) (.c (.b false))) (.c (.b false))) (.c (.b false))) (.c (.b false))) (.c (.b false))) (.c (.b false))) (.c (.b false))) (.c (.b false))) (.c (.b false))) (.c (.b false))) (.c (.b false))) (.c (.b false))) (.c (.b false))) (.c (.b false))) (.c (.b false))) (.c (.b false))) (.c (.b false))) (.c (.b false))) (.c (.b false))) (.c (.b false))) (.c (.b false))) (.c (.b false))) (.c (.b false))) (.c (.b false))) (.c (.b false))) (.c (.b false))) (.c (.b false))) (.c (.b false))) (.c (.b false))) (.c (.b false))) (.c (.b false)))) (.ite (.v 174)
  (.ret [(false, [(.c (.b false))])])
  (.call 16 [(true, [(.v 0), (.v 1), (.v 2), (.v 3), (.v 4), (.v 5), (.v 6), (.v 7), (.v 8), (.v 9), (.v 10), (.v 11), (.v 12), (.v 13), (.v 14), (.v 15), (.v 16), (.v 17), (.v 18), (.v 19), (.v 20), (.v 21), (.v 22), (.v 23), (.v 24), (.v 25), (.v 26), (.v 27), (.v 28), (.v 29), (.v 30), (.v 31), (.v 32), (.v 33), (.v 34), (.v 35), (.v 36), (.v 37), (.v 38), (.v 39), (.v 40), (.v 41), (.v 42), (.v 43), (.v 44)]), (false, [(.v 73)])] [(true, 45)]
  (.call 17 [(true, [(.v 0), (.v 1), (.v 2), (.v 3), (.v 4), (.v 5), (.v 6), (.v 7), (.v 8), (.v 9), (.v 10), (.v 11), (.v 12), (.v 13), (.v 14), (.v 15), (.v 16), (.v 17), (.v 18), (.v 19), (.v 20), (.v 21), (.v 22), (.v 23), (.v 24), (.v 25), (.v 26), (.v 27), (.v 28), (.v 29), (.v 30), (.v 31), (.v 32), (.v 33), (.v 34), (.v 35), (.v 36), (.v 37), (.v 38), (.v 39), (.v 40), (.v 41), (.v 42), (.v 43), (.v 44)]), (false, [(.v 73)])] [(true, 45)]
  (.lt (.un .not (.ite (.eqt true (.v 175) (.v 220)) (.ite (.eqt false (.v 176) (.v 221)) (.ite (.eqt true (.v 177) (.v 222)) (.ite (.eqt false (.v 178) (.v 223)) (.ite (.eqt false (.v 179) (.v 224)) (.ite (.eqt false (.v 180) (.v 225)) (.ite (.eqt true (.v 181) (.v 226)) (.ite (.eqt true (.v 182) (.v 227)) (.ite (.eqt true (.v 183) (.v 228)) (.ite (.eqt true (.v 184) (.v 229)) (.ite (.eqt true (.v 185) (.v 230)) (.ite (.eqt true (.v 186) (.v 231)) (.ite (.eqt false (.v 187) (.v 232)) (.ite (.eqt true (.v 188) (.v 233)) (.ite (.eqt false (.v 189) (.v 234)) (.ite (.eqt false (.v 190) (.v 235)) (.ite (.eqt false (.v 191) (.v 236)) (.ite (.eqt true (.v 192) (.v 237)) (.ite (.eqt true (.v 193) (.v 238)) (.ite (.eqt true (.v 194) (.v 239)) (.ite (.eqt true (.v 195) (.v 240)) (.ite (.eqt true (.v 196) (.v 241)) (.ite (.eqt true (.v 197) (.v 242)) (.ite (.eqt false (.v 198) (.v 243)) (.ite (.eqt true (.v 199) (.v 244)) (.ite (.eqt false (.v 200) (.v 245)) (.ite (.eqt false (.v 201) (.v 246)) (.ite (.eqt false (.v 202) (.v 247)) (.ite (.eqt true (.v 203) (.v 248)) (.ite (.eqt true (.v 204) (.v 249)) (.ite (.eqt true (.v 205) (.v 250)) (.ite (.eqt true (.v 206) (.v 251)) (.ite (.eqt true (.v 207) (.v 252)) (.ite (.eqt true (.v 208) (.v 253)) (.ite (.eqt false (.v 209) (.v 254)) (.ite (.eqt true (.v 210) (.v 255)) (.ite (.eqt false (.v 211) (.v 256)) (.ite (.eqt false (.v 212) (.v 257)) (.ite (.eqt false (.v 213) (.v 258)) (.ite (.eqt true (.v 214) (.v 259)) (.ite (.eqt true (.v 215) (.v 260)) (.ite (.eqt true (.v 216) (.v 261)) (.ite (.eqt true (.v 217) (.v 262)) (.ite (.eqt true (.v 218) (.v 263)) (.ite (.eqt false (.v 219) (.v 264)) (.c (.b true)) (.c (.b false))) (.c (.b false))) (.c (.b false))) (.c (.b false))) (.c (.b false))) (.c (.b false))) (.c (.b false))) (.c (.b false))) (.c (.b false))) (.c (.b false))) (.c (.b false))) (.c (.b false))) (.c (.b false))) (.c (.b false))) (.c (.b false))) (.c (.b false))) (.c (.b false))) (.c (.b false))) (.c (.b false))) (.c (.b false))) (.c (.b false))) (.c (.b false))) (.c (.b false))) (.c (.b false))) (.c (.b false))) (.c (.b false))) (.c (.b false))) (.c (.b false))) (.c (.b false))) (.c (.b false))) (.c (.b false))) (.c (.b false))) (.c (.b false))) (.c (.b false))) (.c (.b false))) (.c (.b false))) (.c (.b false))) (.c (.b false))) (.c (.b false))) (.c (.b false))) (.c (.b false))) (.c (.b false))) (.c (.b false))) (.c (.b false))) (.c (.b false)))) (.ite (.v 265)
  (.ret [(false, [(.c (.b false))])])
  (.chk (.rng (.v 73) 4) (.call 18 [(true, [(.v 45), (.v 46), (.v 47), (.v 48), (.v 49), (.v 50), (.v 51), (.v 52), (.v 53), (.v 54), (.v 55)]), (true, [(.ite (.isk (.v 73) 0) (.v 0) (.ite (.isk (.v 73) 1) (.v 11) (.ite (.isk (.v 73) 2) (.v 22) (.v 33)))), (.ite (.isk (.v 73) 0) (.v 1) (.ite (.isk (.v 73) 1) (.v 12) (.ite (.isk (.v 73) 2) (.v 23) (.v 34)))), (.ite (.isk (.v 73) 0) (.v 2) (.ite (.isk (.v 73) 1) (.v 13) (.ite (.isk (.v 73) 2) (.v 24) (.v 35)))), (.ite (.isk (.v 73) 0) (.v 3) (.ite (.isk (.v 73) 1) (.v 14) (.ite (.isk (.v 73) 2) (.v 25) (.v 36)))), (.ite (.isk (.v 73) 0) (.v 4) (.ite (.isk (.v 73) 1) (.v 15) (.ite (.isk (.v 73) 2) (.v 26) (.v 37)))), (.ite (.isk (.v 73) 0) (.v 5) (.ite (.isk (.v 73) 1) (.v 16) (.ite (.isk (.v 73) 2) (.v 27) (.v 38)))), (.ite (.isk (.v 73) 0) (.v 6) (.ite (.isk (.v 73) 1) (.v 17) (.ite (.isk (.v 73) 2) (.v 28) (.v 39)))), (.ite (.isk (.v 73) 0) (.v 7) (.ite (.isk (.v 73) 1) (.v 18) (.ite (.isk (.v 73) 2) (.v 29) (.v 40)))), (.ite (.isk (.v 73) 0) (.v 8) (.ite (.isk (.v 73) 1) (.v 19) (.ite (.isk (.v 73) 2) (.v 30) (.v 41)))), (.ite (.isk (.v 73) 0) (.v 9) (.ite (.isk (.v 73) 1) (.v 20) (.ite (.isk (.v 73) 2) (.v 31) (.v 42)))), (.ite (.isk (.v 73) 0) (.v 10) (.ite (.isk (.v 73) 1) (.v 21) (.ite (.isk (.v 73) 2) (.v 32) (.v 43))))])] [(false, 1)]
  (.chk (.rng (.v 73) 4) (.call 19 [(true, [(.v 45), (.v 46), (.v 47), (.v 48), (.v 49), (.v 50), (.v 51), (.v 52), (.v 53), (.v 54), (.v 55)]), (true, [(.ite (.isk (.v 73) 0) (.v 0) (.ite (.isk (.v 73) 1) (.v 11) (.ite (.isk (.v 73) 2) (.v 22) (.v 33)))), (.ite (.isk (.v 73) 0) (.v 1) (.ite (.isk (.v 73) 1) (.v 12) (.ite (.isk (.v 73) 2) (.v 23) (.v 34)))), (.ite (.isk (.v 73) 0) (.v 2) (.ite (.isk (.v 73) 1) (.v 13) (.ite (.isk (.v 73) 2) (.v 24) (.v 35)))), (.ite (.isk (.v 73) 0) (.v 3) (.ite (.isk (.v 73) 1) (.v 14) (.ite (.isk (.v 73) 2) (.v 25) (.v 36)))), (.ite (.isk (.v 73) 0) (.v 4) (.ite (.isk (.v 73) 1) (.v 15) (.ite (.isk (.v 73) 2) (.v 26) (.v 37)))), (.ite (.isk (.v 73) 0) (.v 5) (.ite (.isk (.v 73) 1) (.v 16) (.ite (.isk (.v 73) 2) (.v 27) (.v 38)))), (.ite (.isk (.v 73) 0) (.v 6) (.ite (.isk (.v 73) 1) (.v 17) (.ite (.isk (.v 73) 2) (.v 28) (.v 39)))), (.ite (.isk (.v 73) 0) (.v 7) (.ite (.isk (.v 73) 1) (.v 18) (.ite (.isk (.v 73) 2) (.v 29) (.v 40)))), (.ite (.isk (.v 73) 0) (.v 8) (.ite (.isk (.v 73) 1) (.v 19) (.ite (.isk (.v 73) 2) (.v 30) (.v 41)))), (.ite (.isk (.v 73) 0) (.v 9) (.ite (.isk (.v 73) 1) (.v 20) (.ite (.isk (.v 73) 2) (.v 31) (.v 42)))), (.ite (.isk (.v 73) 0) (.v 10) (.ite (.isk (.v 73) 1) (.v 21) (.ite (.isk (.v 73) 2) (.v 32) (.v 43))))])] [(false, 1)]
  (.lt (.un .not (.eqt true (.v 266) (.v 267))) (.ite (.v 268)
  (.ret [(false, [(.c (.b false))])])
  (.lt (.un .not (.v 45)) (.ite (.v 269)
  (.ret [(false, [(.c (.b true))])])
  (.call 20 [(true, [(.v 0), (.v 1), (.v 2), (.v 3), (.v 4), (.v 5), (.v 6), (.v 7), (.v 8), (.v 9), (.v 10), (.v 11), (.v 12), (.v 13), (.v 14), (.v 15), (.v 16), (.v 17), (.v 18), (.v 19), (.v 20), (.v 21), (.v 22), (.v 23), (.v 24), (.v 25), (.v 26), (.v 27), (.v 28), (.v 29), (.v 30), (.v 31), (.v 32), (.v 33), (.v 34), (.v 35), (.v 36), (.v 37), (.v 38), (.v 39), (.v 40), (.v 41), (.v 42), (.v 43), (.v 44)]), (true, [(.v 45), (.v 46), (.v 47), (.v 48), (.v 49), (.v 50), (.v 51), (.v 52), (.v 53), (.v 54), (.v 55)]), (false, [(.v 56)])] [(true, 45), (false, 1)]
  (.call 21 [(true, [(.v 0), (.v 1), (.v 2), (.v 3), (.v 4), (.v 5), (.v 6), (.v 7), (.v 8), (.v 9), (.v 10), (.v 11), (.v 12), (.v 13), (.v 14), (.v 15), (.v 16), (.v 17), (.v 18), (.v 19), (.v 20), (.v 21), (.v 22), (.v 23), (.v 24), (.v 25), (.v 26), (.v 27), (.v 28), (.v 29), (.v 30), (.v 31), (.v 32), (.v 33), (.v 34), (.v 35), (.v 36), (.v 37), (.v 38), (.v 39), (.v 40), (.v 41), (.v 42), (.v 43), (.v 44)]), (true, [(.v 45), (.v 46), (.v 47), (.v 48), (.v 49), (.v 50), (.v 51), (.v 52), (.v 53), (.v 54), (.v 55)]), (false, [(.v 56)])] [(true, 45), (false, 1)]
  (.lt (.ite (.eqt true (.v 270) (.v 316)) (.ite (.eqt false (.v 271) (.v 317)) (.ite (.eqt true (.v 272) (.v 318)) (.ite (.eqt false (.v 273) (.v 319)) (.ite (.eqt false (.v 274) (.v 320)) (.ite (.eqt false (.v 275) (.v 321)) (.ite (.eqt true (.v 276) (.v 322)) (.ite (.eqt true (.v 277) (.v 323)) (.ite (.eqt true (.v 278) (.v 324)) (.ite (.eqt true (.v 279) (.v 325)) (.ite (.eqt true (.v 280) (.v 326)) (.ite (.eqt true (.v 281) (.v 327)) (.ite (.eqt false (.v 282) (.v 328)) (.ite (.eqt true (.v 283) (.v 329)) (.ite (.eqt false (.v 284) (.v 330)) (.ite (.eqt false (.v 285) (.v 331)) (.ite (.eqt false (.v 286) (.v 332)) (.ite (.eqt true (.v 287) (.v 333)) (.ite (.eqt true (.v 288) (.v 334)) (.ite (.eqt true (.v 289) (.v 335)) (.ite (.eqt true (.v 290) (.v 336)) (.ite (.eqt true (.v 291) (.v 337)) (.ite (.eqt true (.v 292) (.v 338)) (.ite (.eqt false (.v 293) (.v 339)) (.ite (.eqt true (.v 294) (.v 340)) (.ite (.eqt false (.v 295) (.v 341)) (.ite (.eqt false (.v 296) (.v 342)) (.ite (.eqt false (.v 297) (.v 343)) (.ite (.eqt true (.v 298) (.v 344)) (.ite (.eqt true (.v 299) (.v 345)) (.ite (.eqt true (.v 300) (.v 346)) (.ite (.eqt true (.v 301) (.v 347)) (.ite (.eqt true (.v 302) (.v 348)) (.ite (.eqt true (.v 303) (.v 349)) (.ite (.eqt false (.v 304) (.v 350)) (.ite (.eqt true (.v 305) (.v 351)) (.ite (.eqt false (.v 306) (.v 352)) (.ite (.eqt false (.v 307) (.v 353)) (.ite (.eqt false (.v 308) (.v 354)) (.ite (.eqt true (.v 309) (.v 355)) (.ite (.eqt true (.v 310) (.v 356)) (.ite (.eqt true (.v 311) (.v 357)) (.ite (.eqt true (.v 312) (.v 358)) (.ite (.eqt true (.v 313) (.v 359)) (.ite (.eqt false (.v 314) (.v 360)) (.c (.b true)) (.c (.b false))) (.c (.b false))) (.c (.b false))) (.c (.b false))) (.c (.b false))) (.c (.b false))) (.c (.b false))) (.c (.b false))) (.c (.b false))) (.c (.b false))) (.c (.b false))) (.c (.b false))) (.c (.b false))) (.c (.b false))) (.c (.b false))) (.c (.b false))) (.c (.b false))) (.c (.b false))) (.c (.b false))) (.c (.b false))) (.c (.b false))) (.c (.b false))) (.c (.b false))) (.c (.b false))) (.c (.b false))) (.c (.b false))) (.c (.b false))) (.c (.b false))) (.c (.b false))) (.c (.b false))) (.c (.b false))) (.c (.b false))) (.c (.b false))) (.c (.b false))) (.c (.b false))) (.c (.b false))) (.c (.b false))) (.c (.b false))) (.c (.b false))) (.c (.b false))) (.c (.b false))) (.c (.b false))) (.c (.b false))) (.c (.b false))) (.c (.b false))) (.ite (.v 362)
  (.lt (.bin .eql (.v 315) (.v 361)) (.ret [(false, [(.v 363)])]))
  (.ret [(false, [(.c (.b false))])])))))))))))))))))))))))))))))))))))))))))))))))))
theorem atlaslaw13_SetDoes_c : compile envIrSet 3000 3 = .ok atlaslaw13_SetDoes_ir := by kernel_rfl
theorem atlaslaw13_SetDoes_p : paramShape Tryd.prog 3 = some [(true, 45), (true, 11), (false, 1), (false, 1), (false, 1), (false, 1), (false, 1)] := by kernel_rfl
theorem atlaslaw13_SetDoes_k : Known gAll 3 [(true, 45), (true, 11), (false, 1), (false, 1), (false, 1), (false, 1), (false, 1)] atlaslaw13_SetDoes_ir := ⟨envIrSet, 3000, rfl, rfl, atlaslaw13_SetDoes_c, atlaslaw13_SetDoes_p⟩
/-- atlas/atlaslaw13.SetFinds -/
def atlaslaw13_SetFinds_ir : IR :=
  (.call 7 [] [(false, 1)]
  (.lt (.un .not (.v 49)) (.ite (.v 50)
  (.call 7 [] [(false, 1)]
  (.ret [(false, [(.v 51)])]))
  (.call 9 [(true, [(.v 0), (.v 1), (.v 2), (.v 3), (.v 4), (.v 5), (.v 6), (.v 7), (.v 8), (.v 9), (.v 10), (.v 11), (.v 12), (.v 13), (.v 14), (.v 15), (.v 16), (.v 17), (.v 18), (.v 19), (.v 20), (.v 21), (.v 22), (.v 23), (.v 24), (.v 25), (.v 26), (.v 27), (.v 28), (.v 29), (.v 30), (.v 31), (.v 32), (.v 33), (.v 34), (.v 35), (.v 36), (.v 37), (.v 38), (.v 39), (.v 40), (.v 41), (.v 42), (.v 43), (.v 44)])] [(false, 1)]
  (.lt (.un .not (.v 51)) (.ite (.v 52)
  (.call 7 [] [(false, 1)]
  (.ret [(false, [(.v 53)])]))
  (.call 11 [(false, [(.v 46)])] [(false, 1)]
  (.lt (.un .not (.v 53)) (.ite (.v 54)
  (.call 7 [] [(false, 1)]
  (.ret [(false, [(.v 55)])]))
  (.lt (.bin .rem (.v 47) (.c (.i .u8 3))) (.lt (.cv .i64 (.v 55)) (.call 12 [(true, [(.v 0), (.v 1), (.v 2), (.v 3), (.v 4), (.v 5), (.v 6), (.v 7), (.v 8), (.v 9), (.v 10), (.v 11), (.v 12), (.v 13), (.v 14), (.v 15), (.v 16), (.v 17), (.v 18), (.v 19), (.v 20), (.v 21), (.v 22), (.v 23), (.v 24), (.v 25), (.v 26), (.v 27), (.v 28), (.v 29), (.v 30), (.v 31), (.v 32), (.v 33), (.v 34), (.v 35), (.v 36), (.v 37), (.v 38), (.v 39), (.v 40), (.v 41), (.v 42), (.v 43), (.v 44)]), (false, [(.v 45)]), (false, [(.v 46)]), (false, [(.v 56)])] [(false, 1), (false, 1)]
  (.lt (.bin .rem (.v 48) (.c (.i .u8 4))) (.lt (.cv .i64 (.v 59)) (.call 14 [(true, [(.v 0), (.v 1), (.v 2), (.v 3), (.v 4), (.v 5), (.v 6), (.v 7), (.v 8), (.v 9), (.v 10), (.v 11), (.v 12), (.v 13), (.v 14), (.v 15), (.v 16), (.v 17), (.v 18), (.v 19), (.v 20), (.v 21), (.v 22), (.v 23), (.v 24), (.v 25), (.v 26), (.v 27), (.v 28), (.v 29), (.v 30), (.v 31), (.v 32), (.v 33), (.v 34), (.v 35), (.v 36), (.v 37), (.v 38), (.v 39), (.v 40), (.v 41), (.v 42), (.v 43), (.v 44)]), (false, [(.v 60)])] [(true, 45)]
  (.lt (.un .not (.ite (.eqt true (.v 61) (.v 0)) (.ite (.eqt false (.v 62) (.v 1)) (.ite (.eqt true (.v 63) (.v 2)) (.ite (.eqt false (.v 64) (.v 3)) (.ite (.eqt false (.v 65) (.v 4)) (.ite (.eqt false (.v 66) (.v 5)) (.ite (.eqt true (.v 67) (.v 6)) (.ite (.eqt true (.v 68) (.v 7)) (.ite (.eqt true (.v 69) (.v 8)) (.ite (.eqt true (.v 70) (.v 9)) (.ite (.eqt true (.v 71) (.v 10)) (.ite (.eqt true (.v 72) (.v 11)) (.ite (.eqt false (.v 73) (.v 12)) (.ite (.eqt true (.v 74) (.v 13)) (.ite (.eqt false (.v 75) (.v 14)) (.ite (.eqt false (.v 76) (.v 15)) (.ite (.eqt false (.v 77) (.v 16)) (.ite (.eqt true (.v 78) (.v 17)) (.ite (.eqt true (.v 79) (.v 18)) (.ite (.eqt true (.v 80) (.v 19)) (.ite (.eqt true (.v 81) (.v 20)) (.ite (.eqt true (.v 82) (.v 21)) (.ite (.eqt true (.v 83) (.v 22)) (.ite (.eqt false (.v 84) (.v 23)) (.ite (.eqt true (.v 85) (.v 24)) (.ite (.eqt false (.v 86) (.v 25)) (.ite (.eqt false (.v 87) (.v 26)) (.ite (.eqt false (.v 88) (.v 27)) (.ite (.eqt true (.v 89) (.v 28)) (.ite (.eqt true (.v 90) (.v 29)) (.ite (.eqt true (.v 91) (.v 30)) (.ite (.eqt true (.v 92) (.v 31)) (.ite (.eqt true (.v 93) (.v 32)) (.ite (.eqt true (.v 94) (.v 33)) (.ite (.eqt false (.v 95) (.v 34)) (.ite (.eqt true (.v 96) (.v 35)) (.ite (.eqt false (.v 97) (.v 36)) (.ite (.eqt false (.v 98) (.v 37)) (.ite (.eqt false (.v 99) (.v 38)) (.ite (.eqt true (.v 100) (.v 39)) (.ite (.eqt true (.v 101) (.v 40)) (.ite (.eqt true (.v 102) (.v 41)) (.ite (.eqt true (.v 103) (.v 42)) (.ite (.eqt true (.v 104) (.v 43)) (.c (.b true)) (.c (.b false))) (.c (.b false))) (.c (.b false))) (.c (.b false))) (.c (.b false))) (.c (.b false))) (.c (.b false))) (.c (.b false))) (.c (.b false))) (.c (.b false))) (.c (.b false))) (.c (.b false))) (.c (.b false))) (.c (.b false))) (.c (.b false))) (.c (.b false))) (.c (.b false))) (.c (.b false))) (.c (.b false))) (.c (.b false))) (.c (.b false))) (.c (.b false))) (.c (.b false))) (.c (.b false))) (.c (.b false))) (.c (.b false))) (.c (.b false))) (.c (.b false))) (.c (.b false))) (.c (.b false))) (.c (.b false))) (.c (.b false))) (.c (.b false))) (.c (.b false))) (.c (.b false))) (.c (.b false))) (.c (.b false))) (.c (.b false))) (.c (.b false))) (.c (.b false))) (.c (.b false))) (.c (.b false))) (.c (.b false))) (.c (.b false)))) (.ite (.v 106)
  (.ret [(false, [(.c (.b false))])])
  (.lt (.un .not (.v 58)) (.ite (.v 107)
  (.loop [(.c (.b false)), (.c (.i .i64 0))]
  (.lt (.bin .lss (.v 109) (.c (.i .i64 4))) (.ite (.v 110)
  (.chk (.rng (.v 109) 4) (.lt (.bin .eql (.ite (.isk (.v 109) 0) (.v 3) (.ite (.isk (.v 109) 1) (.v 14) (.ite (.isk (.v 109) 2) (.v 25) (.v 36)))) (.v 56)) (.ite (.v 111)
  (.chk (.rng (.v 109) 4) (.call 25 [(true, [(.ite (.isk (.v 109) 0) (.v 0) (.ite (.isk (.v 109) 1) (.v 11) (.ite (.isk (.v 109) 2) (.v 22) (.v 33)))), (.ite (.isk (.v 109) 0) (.v 1) (.ite (.isk (.v 109) 1) (.v 12) (.ite (.isk (.v 109) 2) (.v 23) (.v 34)))), (.ite (.isk (.v 109) 0) (.v 2) (.ite (.isk (.v 109) 1) (.v 13) (.ite (.isk (.v 109) 2) (.v 24) (.v 35)))), (.ite (.isk (.v 109) 0) (.v 3) (.ite (.isk (.v 109) 1) (.v 14) (.ite (.isk (.v 109) 2) (.v 25) (.v 36)))), (.ite (.isk (.v 109) 0) (.v 4) (.ite (.isk (.v 109) 1) (.v 15) (.ite (.isk (.v 109) 2) (.v 26) (.v 37)))), (.ite (.isk (.v 109) 0) (.v 5) (.ite (.isk (.v 109) 1) (.v 16) (.ite (.isk (.v 109) 2) (.v 27) (.v 38)))), (.ite (.isk (.v 109) 0) (.v 6) (.ite (.isk (.v 109) 1) (.v 17) (.ite (.isk (.v 109) 2) (.v 28) (.v 39)))), (.ite (.isk (.v 109) 0) (.v 7) (.ite (.isk (.v 109) 1) (.v 18) (.ite (.isk (.v 109) 2) (.v 29) (.v 40)))), (.ite (.isk (.v 109) 0) (.v 8) (.ite (.isk (.v 109) 1) (.v 19) (.ite (.isk (.v 109) 2) (.v 30) (.v 41)))), (.ite (.isk (.v 109) 0) (.v 9) (.ite (.isk (.v 109) 1) (.v 20) (.ite (.isk (.v 109) 2) (.v 31) (.v 42)))), (.ite (.isk (.v 109) 0) (.v 10) (.ite (.isk (.v 109) 1) (.v 21) (.ite (.isk (.v 109) 2) (.v 32) (.v 43))))]), (false, [(.v 45)]), (false, [(.v 46)])] [(false, 1)]
  (.ite (.v 112)
  (.ret [(false, [(.c (.b false))])])
  (.lt (.bin .add (.v 109) (.c (.i .i64 1))) (.cont 0 [(.v 108), (.v 113)])))))
  (.lt (.bin .add (.v 109) (.c (.i .i64 1))) (.cont 0 [(.v 108), (.v 112)])))))
  (.lt (.bin .eql (.v 57) (.c (.i .i64 0))) (.ret [(false, [(.v 111)])])))))
  (.lt (.bin .lss (.v 57) (.c (.i .i64 0))) (.ite (.v 108)
  (.ret [(false, [(.c (.b false))])])
  (.lt (.bin .gtr (.v 57) (.c (.i .i64 3))) (.ite (.v 109)
  (.ret [(false, [(.c (.b false))])])
  (.chk (.rng (.v 57) 4) (.lt (.bin .neq (.ite (.isk (.v 57) 0) (.v 3) (.ite (.isk (.v 57) 1) (.v 14) (.ite (.isk (.v 57) 2) (.v 25) (.v 36)))) (.v 56)) (.ite (.v 110)
  (.ret [(false, [(.c (.b false))])])
  (.chk (.rng (.v 57) 4) (.call 25 [(true, [(.ite (.isk (.v 57) 0) (.v 0) (.ite (.isk (.v 57) 1) (.v 11) (.ite (.isk (.v 57) 2) (.v 22) (.v 33)))), (.ite (.isk (.v 57) 0) (.v 1) (.ite (.isk (.v 57) 1) (.v 12) (.ite (.isk (.v 57) 2) (.v 23) (.v 34)))), (.ite (.isk (.v 57) 0) (.v 2) (.ite (.isk (.v 57) 1) (.v 13) (.ite (.isk (.v 57) 2) (.v 24) (.v 35)))), (.ite (.isk (.v 57) 0) (.v 3) (.ite (.isk (.v 57) 1) (.v 14) (.ite (.isk (.v 57) 2) (.v 25) (.v 36)))), (.ite (.isk (.v 57) 0) (.v 4) (.ite (.isk (.v 57) 1) (.v 15) (.ite (.isk (.v 57) 2) (.v 26) (.v 37)))), (.ite (.isk (.v 57) 0) (.v 5) (.ite (.isk (.v 57) 1) (.v 16) (.ite (.isk (.v 57) 2) (.v 27) (.v 38)))), (.ite (.isk (.v 57) 0) (.v 6) (.ite (.isk (.v 57) 1) (.v 17) (.ite (.isk (.v 57) 2) (.v 28) (.v 39)))), (.ite (.isk (.v 57) 0) (.v 7) (.ite (.isk (.v 57) 1) (.v 18) (.ite (.isk (.v 57) 2) (.v 29) (.v 40)))), (.ite (.isk (.v 57) 0) (.v 8) (.ite (.isk (.v 57) 1) (.v 19) (.ite (.isk (.v 57) 2) (.v 30) (.v 41)))), (.ite (.isk (.v 57) 0) (.v 9) (.ite (.isk (.v 57) 1) (.v 20) (.ite (.isk (.v 57) 2) (.v 31) (.v 42)))), (.ite (.isk (.v 57) 0) (.v 10) (.ite (.isk (.v 57) 1) (.v 21) (.ite (.isk (.v 57) 2) (.v 32) (.v 43))))]), (false, [(.v 45)]), (false, [(.v 46)])] [(false, 1)]
  (.lt (.un .not (.v 111)) (.ite (.v 112)
  (.ret [(false, [(.c (.b false))])])
  (.call 16 [(true, [(.v 0), (.v 1), (.v 2), (.v 3), (.v 4), (.v 5), (.v 6), (.v 7), (.v 8), (.v 9), (.v 10), (.v 11), (.v 12), (.v 13), (.v 14), (.v 15), (.v 16), (.v 17), (.v 18), (.v 19), (.v 20), (.v 21), (.v 22), (.v 23), (.v 24), (.v 25), (.v 26), (.v 27), (.v 28), (.v 29), (.v 30), (.v 31), (.v 32), (.v 33), (.v 34), (.v 35), (.v 36), (.v 37), (.v 38), (.v 39), (.v 40), (.v 41), (.v 42), (.v 43), (.v 44)]), (false, [(.v 57)])] [(true, 45)]
  (.call 12 [(true, [(.v 113), (.v 114), (.v 115), (.v 116), (.v 117), (.v 118), (.v 119), (.v 120), (.v 121), (.v 122), (.v 123), (.v 124), (.v 125), (.v 126), (.v 127), (.v 128), (.v 129), (.v 130), (.v 131), (.v 132), (.v 133), (.v 134), (.v 135), (.v 136), (.v 137), (.v 138), (.v 139), (.v 140), (.v 141), (.v 142), (.v 143), (.v 144), (.v 145), (.v 146), (.v 147), (.v 148), (.v 149), (.v 150), (.v 151), (.v 152), (.v 153), (.v 154), (.v 155), (.v 156), (.v 157)]), (false, [(.v 45)]), (false, [(.v 46)]), (false, [(.v 56)])] [(false, 1), (false, 1)]
  (.lt (.un .not (.v 159)) (.ite (.v 160)
  (.ret [(false, [(.c (.b true))])])
  (.lt (.bin .gtr (.v 158) (.v 57)) (.ret [(false, [(.v 161)])]))))))))))))))))))))))))))))))))))))
theorem atlaslaw13_SetFinds_c : compile envIrSet 3000 5 = .ok atlaslaw13_SetFinds_ir := by kernel_rfl
theorem atlaslaw13_SetFinds_p : paramShape Tryd.prog 5 = some [(true, 45), (false, 1), (false, 1), (false, 1), (false, 1)] := by kernel_rfl
theorem atlaslaw13_SetFinds_k : Known gAll 5 [(true, 45), (false, 1), (false, 1), (false, 1), (false, 1)] atlaslaw13_SetFinds_ir := ⟨envIrSet, 3000, rfl, rfl, atlaslaw13_SetFinds_c, atlaslaw13_SetFinds_p⟩
/-- atlas/atlaslaw13.SetFills -/
def atlaslaw13_SetFills_ir : IR :=
  (.call 7 [] [(false, 1)]
  (.lt (.un .not (.v 1)) (.ite (.v 2)
  (.call 7 [] [(false, 1)]
  (.ret [(false, [(.v 3)])]))
  (.lt (.len (.v 0)) (.lt (.bin .neq (.v 3) (.c (.i .i64 5))) (.ite (.v 4)
  (.call 7 [] [(false, 1)]
  (.ret [(false, [(.v 5)])]))
  (.loop [(.c (.b false)), (.c (.i .i64 0))]
  (.lt (.bin .lss (.v 6) (.c (.i .i64 5))) (.ite (.v 7)
  (.chk (.inb (.v 0) (.v 6) 11) (.call 10 [(true, [(.idx (.v 0) (.v 6) 0), (.idx (.v 0) (.v 6) 1), (.idx (.v 0) (.v 6) 2), (.idx (.v 0) (.v 6) 3), (.idx (.v 0) (.v 6) 4), (.idx (.v 0) (.v 6) 5), (.idx (.v 0) (.v 6) 6), (.idx (.v 0) (.v 6) 7), (.idx (.v 0) (.v 6) 8), (.idx (.v 0) (.v 6) 9), (.idx (.v 0) (.v 6) 10)])] [(false, 1)]
  (.lt (.un .not (.v 8)) (.ite (.v 9)
  (.ret [(false, [(.c (.b true))])])
  (.chk (.inb (.v 0) (.v 6) 11) (.lt (.un .not (.idx (.v 0) (.v 6) 0)) (.ite (.v 10)
  (.ret [(false, [(.c (.b true))])])
  (.loop [(.v 5), (.c (.i .i64 0))]
  (.lt (.bin .lss (.v 12) (.v 6)) (.ite (.v 13)
  (.chk (.inb (.v 0) (.v 6) 11) (.chk (.inb (.v 0) (.v 12) 11) (.call 18 [(true, [(.idx (.v 0) (.v 6) 0), (.idx (.v 0) (.v 6) 1), (.idx (.v 0) (.v 6) 2), (.idx (.v 0) (.v 6) 3), (.idx (.v 0) (.v 6) 4), (.idx (.v 0) (.v 6) 5), (.idx (.v 0) (.v 6) 6), (.idx (.v 0) (.v 6) 7), (.idx (.v 0) (.v 6) 8), (.idx (.v 0) (.v 6) 9), (.idx (.v 0) (.v 6) 10)]), (true, [(.idx (.v 0) (.v 12) 0), (.idx (.v 0) (.v 12) 1), (.idx (.v 0) (.v 12) 2), (.idx (.v 0) (.v 12) 3), (.idx (.v 0) (.v 12) 4), (.idx (.v 0) (.v 12) 5), (.idx (.v 0) (.v 12) 6), (.idx (.v 0) (.v 12) 7), (.idx (.v 0) (.v 12) 8), (.idx (.v 0) (.v 12) 9), (.idx (.v 0) (.v 12) 10)])] [(false, 1)]
  (.ite (.v 14)
  (.ret [(false, [(.c (.b true))])])
  (.lt (.bin .add (.v 12) (.c (.i .i64 1))) (.cont 1 [(.v 11), (.v 15)]))))))
  (.lt (.bin .add (.v 6) (.c (.i .i64 1))) (.cont 0 [(.v 11), (.v 14)]))))))))))))
  (.loop [(.v 5), (.c (.i .i64 0)), (.c (.b false)), (.c (.i .u64 0)), (.c (.b false)), (.c (.i .i64 0)), (.c (.i .u64 0)), (.c (.i .u64 0)), (.c (.b false)), (.c (.b false)), (.c (.b false)), (.c (.b false)), (.c (.b false)), (.c (.b false)), (.c (.i .u64 0)), (.c (.b false)), (.c (.i .i64 0)), (.c (.i .u64 0)), (.c (.i .u64 0)), (.c (.b false)), (.c (.b false)), (.c (.b false)), (.c (.b false)), (.c (.b false)), (.c (.b false)), (.c (.i .u64 0)), (.c (.b false)), (.c (.i .i64 0)), (.c (.i .u64 0)), (.c (.i .u64 0)), (.c (.b false)), (.c (.b false)), (.c (.b false)), (.c (.b false)), (.c (.b false)), (.c (.b false)), (.c (.i .u64 0)), (.c (.b false)), (.c (.i .i64 0)), (.c (.i .u64 0)), (.c (.i .u64 0)), (.c (.b false)), (.c (.b false)), (.c (.b false)), (.c (.b false)), (.c (.b false)), (.c (.i .u8 0))]
  (.lt (.bin .lss (.v 9) (.c (.i .i64 4))) (.ite (.v 55)
  (.chk (.inb (.v 0) (.v 9) 11) (.call 20 [(true, [(.v 10), (.v 11), (.v 12), (.v 13), (.v 14), (.v 15), (.v 16), (.v 17), (.v 18), (.v 19), (.v 20), (.v 21), (.v 22), (.v 23), (.v 24), (.v 25), (.v 26), (.v 27), (.v 28), (.v 29), (.v 30), (.v 31), (.v 32), (.v 33), (.v 34), (.v 35), (.v 36), (.v 37), (.v 38), (.v 39), (.v 40), (.v 41), (.v 42), (.v 43), (.v 44), (.v 45), (.v 46), (.v 47), (.v 48), (.v 49), (.v 50), (.v 51), (.v 52), (.v 53), (.v 54)]), (true, [(.idx (.v 0) (.v 9) 0), (.idx (.v 0) (.v 9) 1), (.idx (.v 0) (.v 9) 2), (.idx (.v 0) (.v 9) 3), (.idx (.v 0) (.v 9) 4), (.idx (.v 0) (.v 9) 5), (.idx (.v 0) (.v 9) 6), (.idx (.v 0) (.v 9) 7), (.idx (.v 0) (.v 9) 8), (.idx (.v 0) (.v 9) 9), (.idx (.v 0) (.v 9) 10)]), (false, [(.c (.i .i64 (-1)))])] [(true, 45), (false, 1)]
  (.lt (.bin .neq (.v 101) (.v 9)) (.ite (.v 102)
  (.ret [(false, [(.c (.b false))])])
  (.lt (.bin .add (.v 9) (.c (.i .i64 1))) (.cont 1 [(.v 8), (.v 103), (.v 56), (.v 57), (.v 58), (.v 59), (.v 60), (.v 61), (.v 62), (.v 63), (.v 64), (.v 65), (.v 66), (.v 67), (.v 68), (.v 69), (.v 70), (.v 71), (.v 72), (.v 73), (.v 74), (.v 75), (.v 76), (.v 77), (.v 78), (.v 79), (.v 80), (.v 81), (.v 82), (.v 83), (.v 84), (.v 85), (.v 86), (.v 87), (.v 88), (.v 89), (.v 90), (.v 91), (.v 92), (.v 93), (.v 94), (.v 95), (.v 96), (.v 97), (.v 98), (.v 99), (.v 100)]))))))
  (.chk (.inb (.v 0) (.c (.i .i64 4)) 11) (.call 20 [(true, [(.v 10), (.v 11), (.v 12), (.v 13), (.v 14), (.v 15), (.v 16), (.v 17), (.v 18), (.v 19), (.v 20), (.v 21), (.v 22), (.v 23), (.v 24), (.v 25), (.v 26), (.v 27), (.v 28), (.v 29), (.v 30), (.v 31), (.v 32), (.v 33), (.v 34), (.v 35), (.v 36), (.v 37), (.v 38), (.v 39), (.v 40), (.v 41), (.v 42), (.v 43), (.v 44), (.v 45), (.v 46), (.v 47), (.v 48), (.v 49), (.v 50), (.v 51), (.v 52), (.v 53), (.v 54)]), (true, [(.idx (.v 0) (.c (.i .i64 4)) 0), (.idx (.v 0) (.c (.i .i64 4)) 1), (.idx (.v 0) (.c (.i .i64 4)) 2), (.idx (.v 0) (.c (.i .i64 4)) 3), (.idx (.v 0) (.c (.i .i64 4)) 4), (.idx (.v 0) (.c (.i .i64 4)) 5), (.idx (.v 0) (.c (.i .i64 4)) 6), (.idx (.v 0) (.c (.i .i64 4)) 7), (.idx (.v 0) (.c (.i .i64 4)) 8), (.idx (.v 0) (.c (.i .i64 4)) 9), (.idx (.v 0) (.c (.i .i64 4)) 10)]), (false, [(.c (.i .i64 (-1)))])] [(true, 45), (false, 1)]
  (.lt (.bin .eql (.v 101) (.c (.i .i64 0))) (.ite (.v 102)
  (.chk (.inb (.v 0) (.c (.i .i64 4)) 11) (.lt (.ite (.eqt true (.v 56) (.idx (.v 0) (.c (.i .i64 4)) 0)) (.ite (.eqt false (.v 57) (.idx (.v 0) (.c (.i .i64 4)) 1)) (.ite (.eqt true (.v 58) (.idx (.v 0) (.c (.i .i64 4)) 2)) (.ite (.eqt false (.v 59) (.idx (.v 0) (.c (.i .i64 4)) 3)) (.ite (.eqt false (.v 60) (.idx (.v 0) (.c (.i .i64 4)) 4)) (.ite (.eqt false (.v 61) (.idx (.v 0) (.c (.i .i64 4)) 5)) (.ite (.eqt true (.v 62) (.idx (.v 0) (.c (.i .i64 4)) 6)) (.ite (.eqt true (.v 63) (.idx (.v 0) (.c (.i .i64 4)) 7)) (.ite (.eqt true (.v 64) (.idx (.v 0) (.c (.i .i64 4)) 8)) (.ite (.eqt true (.v 65) (.idx (.v 0) (.c (.i .i64 4)) 9)) (.ite (.eqt true (.v 66) (.idx (.v 0) (.c (.i .i64 4)) 10)) (.c (.b true)) (.c (.b false))) (.c (.b false))) (.c (.b false))) (.c (.b false))) (.c (.b false))) (.c (.b false))) (.c (.b false))) (.c (.b false))) (.c (.b false))) (.c (.b false))) (.c (.b false))) (.ite (.v 103)
  (.chk (.inb (.v 0) (.c (.i .i64 1)) 11) (.lt (.ite (.eqt true (.v 67) (.idx (.v 0) (.c (.i .i64 1)) 0)) (.ite (.eqt false (.v 68) (.idx (.v 0) (.c (.i .i64 1)) 1)) (.ite (.eqt true (.v 69) (.idx (.v 0) (.c (.i .i64 1)) 2)) (.ite (.eqt false (.v 70) (.idx (.v 0) (.c (.i .i64 1)) 3)) (.ite (.eqt false (.v 71) (.idx (.v 0) (.c (.i .i64 1)) 4)) (.ite (.eqt false (.v 72) (.idx (.v 0) (.c (.i .i64 1)) 5)) (.ite (.eqt true (.v 73) (.idx (.v 0) (.c (.i .i64 1)) 6)) (.ite (.eqt true (.v 74) (.idx (.v 0) (.c (.i .i64 1)) 7)) (.ite (.eqt true (.v 75) (.idx (.v 0) (.c (.i .i64 1)) 8)) (.ite (.eqt true (.v 76) (.idx (.v 0) (.c (.i .i64 1)) 9)) (.ite (.eqt true (.v 77) (.idx (.v 0) (.c (.i .i64 1)) 10)) (.c (.b true)) (.c (.b false))) (.c (.b false))) (.c (.b false))) (.c (.b false))) (.c (.b false))) (.c (.b false))) (.c (.b false))) (.c (.b false))) (.c (.b false))) (.c (.b false))) (.c (.b false))) (.ite (.v 104)
  (.chk (.inb (.v 0) (.c (.i .i64 2)) 11) (.lt (.ite (.eqt true (.v 78) (.idx (.v 0) (.c (.i .i64 2)) 0)) (.ite (.eqt false (.v 79) (.idx (.v 0) (.c (.i .i64 2)) 1)) (.ite (.eqt true (.v 80) (.idx (.v 0) (.c (.i .i64 2)) 2)) (.ite (.eqt false (.v 81) (.idx (.v 0) (.c (.i .i64 2)) 3)) (.ite (.eqt false (.v 82) (.idx (.v 0) (.c (.i .i64 2)) 4)) (.ite (.eqt false (.v 83) (.idx (.v 0) (.c (.i .i64 2)) 5)) (.ite (.eqt true (.v 84) (.idx (.v 0) (.c (.i .i64 2)) 6)) (.ite (.eqt true (.v 85) (.idx (.v 0) (.c (.i .i64 2)) 7)) (.ite (.eqt true (.v 86) (.idx (.v 0) (.c (.i .i64 2)) 8)) (.ite (.eqt true (.v 87) (.idx (.v 0) (.c (.i .i64 2)) 9)) (.ite (.eqt true (.v 88) (.idx (.v 0) (.c (.i .i64 2)) 10)) (.c (.b true)) (.c (.b false))) (.c (.b false))) (.c (.b false))) (.c (.b false))) (.c (.b false))) (.c (.b false))) (.c (.b false))) (.c (.b false))) (.c (.b false))) (.c (.b false))) (.c (.b false))) (.ite (.v 105)
  (.chk (.inb (.v 0) (.c (.i .i64 3)) 11) (.lt (.ite (.eqt true (.v 89) (.idx (.v 0) (.c (.i .i64 3)) 0)) (.ite (.eqt false (.v 90) (.idx (.v 0) (.c (.i .i64 3)) 1)) (.ite (.eqt true (.v 91) (.idx (.v 0) (.c (.i .i64 3)) 2)) (.ite (.eqt false (.v 92) (.idx (.v 0) (.c (.i .i64 3)) 3)) (.ite (.eqt false (.v 93) (.idx (.v 0) (.c (.i .i64 3)) 4)) (.ite (.eqt false (.v 94) (.idx (.v 0) (.c (.i .i64 3)) 5)) (.ite (.eqt true (.v 95) (.idx (.v 0) (.c (.i .i64 3)) 6)) (.ite (.eqt true (.v 96) (.idx (.v 0) (.c (.i .i64 3)) 7)) (.ite (.eqt true (.v 97) (.idx (.v 0) (.c (.i .i64 3)) 8)) (.ite (.eqt true (.v 98) (.idx (.v 0) (.c (.i .i64 3)) 9)) (.ite (.eqt true (.v 99) (.idx (.v 0) (.c (.i .i64 3)) 10)) (.c (.b true)) (.c (.b false))) (.c (.b false))) (.c (.b false))) (.c (.b false))) (.c (.b false))) (.c (.b false))) (.c (.b false))) (.c (.b false))) (.c (.b false))) (.c (.b false))) (.c (.b false))) (.ret [(false, [(.v 106)])])))
  (.ret [(false, [(.c (.b false))])]))))
  (.ret [(false, [(.c (.b false))])]))))
  (.ret [(false, [(.c (.b false))])]))))
  (.ret [(false, [(.c (.b false))])])))))))))))))))))
theorem atlaslaw13_SetFills_c : compile envIrSet 3000 6 = .ok atlaslaw13_SetFills_ir := by kernel_rfl
theorem atlaslaw13_SetFills_p : paramShape Tryd.prog 6 = some [(false, 1)] := by kernel_rfl
theorem atlaslaw13_SetFills_k : Known gAll 6 [(false, 1)] atlaslaw13_SetFills_ir := ⟨envIrSet, 3000, rfl, rfl, atlaslaw13_SetFills_c, atlaslaw13_SetFills_p⟩
/-- atlas/atlaslaw13.awake -/
def atlaslaw13_awake_ir : IR :=
  (.call 26 [(false, [(.c (.i .u64 5))]), (false, [(.c (.i .u64 1))])] [(true, 11)]
  (.call 20 [(true, [(.c (.b false)), (.c (.i .u64 0)), (.c (.b false)), (.c (.i .i64 0)), (.c (.i .u64 0)), (.c (.i .u64 0)), (.c (.b false)), (.c (.b false)), (.c (.b false)), (.c (.b false)), (.c (.b false)), (.c (.b false)), (.c (.i .u64 0)), (.c (.b false)), (.c (.i .i64 0)), (.c (.i .u64 0)), (.c (.i .u64 0)), (.c (.b false)), (.c (.b false)), (.c (.b false)), (.c (.b false)), (.c (.b false)), (.c (.b false)), (.c (.i .u64 0)), (.c (.b false)), (.c (.i .i64 0)), (.c (.i .u64 0)), (.c (.i .u64 0)), (.c (.b false)), (.c (.b false)), (.c (.b false)), (.c (.b false)), (.c (.b false)), (.c (.b false)), (.c (.i .u64 0)), (.c (.b false)), (.c (.i .i64 0)), (.c (.i .u64 0)), (.c (.i .u64 0)), (.c (.b false)), (.c (.b false)), (.c (.b false)), (.c (.b false)), (.c (.b false)), (.c (.i .u8 0))]), (true, [(.v 0), (.v 1), (.v 2), (.v 3), (.v 4), (.v 5), (.v 6), (.v 7), (.v 8), (.v 9), (.v 10)]), (false, [(.c (.i .i64 (-1)))])] [(true, 45), (false, 1)]
  (.call 26 [(false, [(.c (.i .u64 6))]), (false, [(.c (.i .u64 1))])] [(true, 11)]
  (.call 20 [(true, [(.v 11), (.v 12), (.v 13), (.v 14), (.v 15), (.v 16), (.v 17), (.v 18), (.v 19), (.v 20), (.v 21), (.v 22), (.v 23), (.v 24), (.v 25), (.v 26), (.v 27), (.v 28), (.v 29), (.v 30), (.v 31), (.v 32), (.v 33), (.v 34), (.v 35), (.v 36), (.v 37), (.v 38), (.v 39), (.v 40), (.v 41), (.v 42), (.v 43), (.v 44), (.v 45), (.v 46), (.v 47), (.v 48), (.v 49), (.v 50), (.v 51), (.v 52), (.v 53), (.v 54), (.v 55)]), (true, [(.v 57), (.v 58), (.v 59), (.v 60), (.v 61), (.v 62), (.v 63), (.v 64), (.v 65), (.v 66), (.v 67)]), (false, [(.c (.i .i64 9))])] [(true, 45), (false, 1)]
  (.call 26 [(false, [(.c (.i .u64 7))]), (false, [(.c (.i .u64 1))])] [(true, 11)]
  (.call 20 [(true, [(.v 68), (.v 69), (.v 70), (.v 71), (.v 72), (.v 73), (.v 74), (.v 75), (.v 76), (.v 77), (.v 78), (.v 79), (.v 80), (.v 81), (.v 82), (.v 83), (.v 84), (.v 85), (.v 86), (.v 87), (.v 88), (.v 89), (.v 90), (.v 91), (.v 92), (.v 93), (.v 94), (.v 95), (.v 96), (.v 97), (.v 98), (.v 99), (.v 100), (.v 101), (.v 102), (.v 103), (.v 104), (.v 105), (.v 106), (.v 107), (.v 108), (.v 109), (.v 110), (.v 111), (.v 112)]), (true, [(.v 114), (.v 115), (.v 116), (.v 117), (.v 118), (.v 119), (.v 120), (.v 121), (.v 122), (.v 123), (.v 124)]), (false, [(.c (.i .i64 0))])] [(true, 45), (false, 1)]
  (.call 26 [(false, [(.c (.i .u64 5))]), (false, [(.c (.i .u64 1))])] [(true, 11)]
  (.call 20 [(true, [(.v 68), (.v 69), (.v 70), (.v 71), (.v 72), (.v 73), (.v 74), (.v 75), (.v 76), (.v 77), (.v 78), (.v 79), (.v 80), (.v 81), (.v 82), (.v 83), (.v 84), (.v 85), (.v 86), (.v 87), (.v 88), (.v 89), (.v 90), (.v 91), (.v 92), (.v 93), (.v 94), (.v 95), (.v 96), (.v 97), (.v 98), (.v 99), (.v 100), (.v 101), (.v 102), (.v 103), (.v 104), (.v 105), (.v 106), (.v 107), (.v 108), (.v 109), (.v 110), (.v 111), (.v 112)]), (true, [(.v 171), (.v 172), (.v 173), (.v 174), (.v 175), (.v 176), (.v 177), (.v 178), (.v 179), (.v 180), (.v 181)]), (false, [(.c (.i .i64 3))])] [(true, 45), (false, 1)]
  (.call 12 [(true, [(.v 68), (.v 69), (.v 70), (.v 71), (.v 72), (.v 73), (.v 74), (.v 75), (.v 76), (.v 77), (.v 78), (.v 79), (.v 80), (.v 81), (.v 82), (.v 83), (.v 84), (.v 85), (.v 86), (.v 87), (.v 88), (.v 89), (.v 90), (.v 91), (.v 92), (.v 93), (.v 94), (.v 95), (.v 96), (.v 97), (.v 98), (.v 99), (.v 100), (.v 101), (.v 102), (.v 103), (.v 104), (.v 105), (.v 106), (.v 107), (.v 108), (.v 109), (.v 110), (.v 111), (.v 112)]), (false, [(.c (.i .u64 1))]), (false, [(.c (.i .u64 24585))]), (false, [(.c (.i .i64 0))])] [(false, 1), (false, 1)]
  (.call 12 [(true, [(.v 125), (.v 126), (.v 127), (.v 128), (.v 129), (.v 130), (.v 131), (.v 132), (.v 133), (.v 134), (.v 135), (.v 136), (.v 137), (.v 138), (.v 139), (.v 140), (.v 141), (.v 142), (.v 143), (.v 144), (.v 145), (.v 146), (.v 147), (.v 148), (.v 149), (.v 150), (.v 151), (.v 152), (.v 153), (.v 154), (.v 155), (.v 156), (.v 157), (.v 158), (.v 159), (.v 160), (.v 161), (.v 162), (.v 163), (.v 164), (.v 165), (.v 166), (.v 167), (.v 168), (.v 169)]), (false, [(.c (.i .u64 1))]), (false, [(.c (.i .u64 20480))]), (false, [(.c (.i .i64 0))])] [(false, 1), (false, 1)]
  (.call 12 [(true, [(.v 68), (.v 69), (.v 70), (.v 71), (.v 72), (.v 73), (.v 74), (.v 75), (.v 76), (.v 77), (.v 78), (.v 79), (.v 80), (.v 81), (.v 82), (.v 83), (.v 84), (.v 85), (.v 86), (.v 87), (.v 88), (.v 89), (.v 90), (.v 91), (.v 92), (.v 93), (.v 94), (.v 95), (.v 96), (.v 97), (.v 98), (.v 99), (.v 100), (.v 101), (.v 102), (.v 103), (.v 104), (.v 105), (.v 106), (.v 107), (.v 108), (.v 109), (.v 110), (.v 111), (.v 112)]), (false, [(.c (.i .u64 2))]), (false, [(.c (.i .u64 24576))]), (false, [(.c (.i .i64 0))])] [(false, 1), (false, 1)]
  (.lt (.bin .eql (.v 56) (.c (.i .i64 0))) (.ite (.v 234)
  (.lt (.bin .eql (.v 113) (.c (.i .i64 1))) (.ite (.v 235)
  (.lt (.bin .eql (.v 170) (.c (.i .i64 0))) (.ite (.v 236)
  (.lt (.bin .eql (.v 227) (.c (.i .i64 3))) (.ite (.v 237)
  (.lt (.bin .eql (.v 228) (.c (.i .i64 1))) (.ite (.v 238)
  (.ite (.v 229)
  (.lt (.un .not (.v 231)) (.ite (.v 239)
  (.lt (.un .not (.v 233)) (.ite (.v 240)
  (.lt (.un .not (.v 182)) (.ite (.v 241)
  (.ite (.v 215)
  (.call 14 [(true, [(.c (.b false)), (.c (.i .u64 0)), (.c (.b false)), (.c (.i .i64 0)), (.c (.i .u64 0)), (.c (.i .u64 0)), (.c (.b false)), (.c (.b false)), (.c (.b false)), (.c (.b false)), (.c (.b false)), (.c (.b false)), (.c (.i .u64 0)), (.c (.b false)), (.c (.i .i64 0)), (.c (.i .u64 0)), (.c (.i .u64 0)), (.c (.b false)), (.c (.b false)), (.c (.b false)), (.c (.b false)), (.c (.b false)), (.c (.b false)), (.c (.i .u64 0)), (.c (.b false)), (.c (.i .i64 0)), (.c (.i .u64 0)), (.c (.i .u64 0)), (.c (.b false)), (.c (.b false)), (.c (.b false)), (.c (.b false)), (.c (.b false)), (.c (.b false)), (.c (.i .u64 0)), (.c (.b false)), (.c (.i .i64 0)), (.c (.i .u64 0)), (.c (.i .u64 0)), (.c (.b false)), (.c (.b false)), (.c (.b false)), (.c (.b false)), (.c (.b false)), (.c (.i .u8 0))]), (false, [(.c (.i .i64 0))])] [(true, 45)]
  (.lt (.bin .eql (.v 286) (.c (.i .u8 3))) (.ite (.v 287)
  (.call 16 [(true, [(.v 11), (.v 12), (.v 13), (.v 14), (.v 15), (.v 16), (.v 17), (.v 18), (.v 19), (.v 20), (.v 21), (.v 22), (.v 23), (.v 24), (.v 25), (.v 26), (.v 27), (.v 28), (.v 29), (.v 30), (.v 31), (.v 32), (.v 33), (.v 34), (.v 35), (.v 36), (.v 37), (.v 38), (.v 39), (.v 40), (.v 41), (.v 42), (.v 43), (.v 44), (.v 45), (.v 46), (.v 47), (.v 48), (.v 49), (.v 50), (.v 51), (.v 52), (.v 53), (.v 54), (.v 55)]), (false, [(.c (.i .i64 0))])] [(true, 45)]
  (.lt (.un .not (.v 288)) (.ite (.v 333)
  (.call 8 [(true, [(.v 182), (.v 183), (.v 184), (.v 185), (.v 186), (.v 187), (.v 188), (.v 189), (.v 190), (.v 191), (.v 192), (.v 193), (.v 194), (.v 195), (.v 196), (.v 197), (.v 198), (.v 199), (.v 200), (.v 201), (.v 202), (.v 203), (.v 204), (.v 205), (.v 206), (.v 207), (.v 208), (.v 209), (.v 210), (.v 211), (.v 212), (.v 213), (.v 214), (.v 215), (.v 216), (.v 217), (.v 218), (.v 219), (.v 220), (.v 221), (.v 222), (.v 223), (.v 224), (.v 225), (.v 226)])] [(false, 1)]
  (.ite (.v 334)
  (.call 8 [(true, [(.c (.b false)), (.c (.i .u64 0)), (.c (.b false)), (.c (.i .i64 0)), (.c (.i .u64 0)), (.c (.i .u64 0)), (.c (.b false)), (.c (.b false)), (.c (.b false)), (.c (.b false)), (.c (.b false)), (.c (.b false)), (.c (.i .u64 0)), (.c (.b false)), (.c (.i .i64 0)), (.c (.i .u64 0)), (.c (.i .u64 0)), (.c (.b false)), (.c (.b false)), (.c (.b false)), (.c (.b false)), (.c (.b false)), (.c (.b false)), (.c (.i .u64 0)), (.c (.b false)), (.c (.i .i64 0)), (.c (.i .u64 0)), (.c (.i .u64 0)), (.c (.b false)), (.c (.b false)), (.c (.b false)), (.c (.b false)), (.c (.b false)), (.c (.b false)), (.c (.i .u64 0)), (.c (.b false)), (.c (.i .i64 0)), (.c (.i .u64 0)), (.c (.i .u64 0)), (.c (.b false)), (.c (.b false)), (.c (.b false)), (.c (.b false)), (.c (.b false)), (.c (.i .u8 8))])] [(false, 1)]
  (.lt (.un .not (.v 335)) (.ite (.v 336)
  (.call 26 [(false, [(.c (.i .u64 5))]), (false, [(.c (.i .u64 1))])] [(true, 11)]
  (.call 26 [(false, [(.c (.i .u64 5))]), (false, [(.c (.i .u64 1))])] [(true, 11)]
  (.call 18 [(true, [(.v 337), (.v 338), (.v 339), (.v 340), (.v 341), (.v 342), (.v 343), (.v 344), (.v 345), (.v 346), (.v 347)]), (true, [(.v 348), (.v 349), (.v 350), (.v 351), (.v 352), (.v 353), (.v 354), (.v 355), (.v 356), (.v 357), (.v 358)])] [(false, 1)]
  (.ite (.v 359)
  (.call 26 [(false, [(.c (.i .u64 5))]), (false, [(.c (.i .u64 1))])] [(true, 11)]
  (.call 26 [(false, [(.c (.i .u64 5))]), (false, [(.c (.i .u64 2))])] [(true, 11)]
  (.call 18 [(true, [(.v 360), (.v 361), (.v 362), (.v 363), (.v 364), (.v 365), (.v 366), (.v 367), (.v 368), (.v 369), (.v 370)]), (true, [(.v 371), (.v 372), (.v 373), (.v 374), (.v 375), (.v 376), (.v 377), (.v 378), (.v 379), (.v 380), (.v 381)])] [(false, 1)]
  (.lt (.un .not (.v 382)) (.ret [(false, [(.v 383)])])))))
  (.ret [(false, [(.c (.b false))])])))))
  (.ret [(false, [(.c (.b false))])]))))
  (.ret [(false, [(.c (.b false))])])))
  (.ret [(false, [(.c (.b false))])]))))
  (.ret [(false, [(.c (.b false))])]))))
  (.ret [(false, [(.c (.b false))])]))
  (.ret [(false, [(.c (.b false))])])))
  (.ret [(false, [(.c (.b false))])])))
  (.ret [(false, [(.c (.b false))])])))
  (.ret [(false, [(.c (.b false))])]))
  (.ret [(false, [(.c (.b false))])])))
  (.ret [(false, [(.c (.b false))])])))
  (.ret [(false, [(.c (.b false))])])))
  (.ret [(false, [(.c (.b false))])])))
  (.ret [(false, [(.c (.b false))])]))))))))))))))
theorem atlaslaw13_awake_c : compile envIrSet 3000 7 = .ok atlaslaw13_awake_ir := by kernel_rfl
theorem atlaslaw13_awake_p : paramShape Tryd.prog 7 = some [] := by kernel_rfl
theorem atlaslaw13_awake_k : Known gAll 7 [] atlaslaw13_awake_ir := ⟨envIrSet, 3000, rfl, rfl, atlaslaw13_awake_c, atlaslaw13_awake_p⟩
/-- atlas/set.Right -/
def set_Right_ir : IR :=
  (.call 27 [(false, [(.v 44)])] [(false, 1)]
  (.ite (.v 45)
  (.call 30 [(true, [(.v 0), (.v 1), (.v 2), (.v 3), (.v 4), (.v 5), (.v 6), (.v 7), (.v 8), (.v 9), (.v 10)])] [(false, 1)]
  (.lt (.un .not (.v 46)) (.ite (.v 47)
  (.ret [(false, [(.c (.b false))])])
  (.call 30 [(true, [(.v 11), (.v 12), (.v 13), (.v 14), (.v 15), (.v 16), (.v 17), (.v 18), (.v 19), (.v 20), (.v 21)])] [(false, 1)]
  (.lt (.un .not (.v 48)) (.ite (.v 49)
  (.ret [(false, [(.c (.b false))])])
  (.call 30 [(true, [(.v 22), (.v 23), (.v 24), (.v 25), (.v 26), (.v 27), (.v 28), (.v 29), (.v 30), (.v 31), (.v 32)])] [(false, 1)]
  (.lt (.un .not (.v 50)) (.ite (.v 51)
  (.ret [(false, [(.c (.b false))])])
  (.call 30 [(true, [(.v 33), (.v 34), (.v 35), (.v 36), (.v 37), (.v 38), (.v 39), (.v 40), (.v 41), (.v 42), (.v 43)])] [(false, 1)]
  (.lt (.un .not (.v 52)) (.ite (.v 53)
  (.ret [(false, [(.c (.b false))])])
  (.ret [(false, [(.c (.b true))])])))))))))))))
  (.ret [(false, [(.c (.b false))])])))
theorem set_Right_c : compile envIrSet 3000 8 = .ok set_Right_ir := by kernel_rfl
theorem set_Right_p : paramShape Tryd.prog 8 = some [(true, 45)] := by kernel_rfl
theorem set_Right_k : Known gAll 8 [(true, 45)] set_Right_ir := ⟨envIrSet, 3000, rfl, rfl, set_Right_c, set_Right_p⟩
/-- atlas/atlasref13.Right -/
def atlasref13_Right_ir : IR :=
  (.loop [(.c (.b false)), (.c (.i .i64 0))]
  (.lt (.bin .lss (.v 46) (.c (.i .i64 4))) (.ite (.v 47)
  (.chk (.rng (.v 46) 4) (.call 10 [(true, [(.ite (.isk (.v 46) 0) (.v 0) (.ite (.isk (.v 46) 1) (.v 11) (.ite (.isk (.v 46) 2) (.v 22) (.v 33)))), (.ite (.isk (.v 46) 0) (.v 1) (.ite (.isk (.v 46) 1) (.v 12) (.ite (.isk (.v 46) 2) (.v 23) (.v 34)))), (.ite (.isk (.v 46) 0) (.v 2) (.ite (.isk (.v 46) 1) (.v 13) (.ite (.isk (.v 46) 2) (.v 24) (.v 35)))), (.ite (.isk (.v 46) 0) (.v 3) (.ite (.isk (.v 46) 1) (.v 14) (.ite (.isk (.v 46) 2) (.v 25) (.v 36)))), (.ite (.isk (.v 46) 0) (.v 4) (.ite (.isk (.v 46) 1) (.v 15) (.ite (.isk (.v 46) 2) (.v 26) (.v 37)))), (.ite (.isk (.v 46) 0) (.v 5) (.ite (.isk (.v 46) 1) (.v 16) (.ite (.isk (.v 46) 2) (.v 27) (.v 38)))), (.ite (.isk (.v 46) 0) (.v 6) (.ite (.isk (.v 46) 1) (.v 17) (.ite (.isk (.v 46) 2) (.v 28) (.v 39)))), (.ite (.isk (.v 46) 0) (.v 7) (.ite (.isk (.v 46) 1) (.v 18) (.ite (.isk (.v 46) 2) (.v 29) (.v 40)))), (.ite (.isk (.v 46) 0) (.v 8) (.ite (.isk (.v 46) 1) (.v 19) (.ite (.isk (.v 46) 2) (.v 30) (.v 41)))), (.ite (.isk (.v 46) 0) (.v 9) (.ite (.isk (.v 46) 1) (.v 20) (.ite (.isk (.v 46) 2) (.v 31) (.v 42)))), (.ite (.isk (.v 46) 0) (.v 10) (.ite (.isk (.v 46) 1) (.v 21) (.ite (.isk (.v 46) 2) (.v 32) (.v 43))))])] [(false, 1)]
  (.lt (.un .not (.v 48)) (.ite (.v 49)
  (.ret [(false, [(.c (.b false))])])
  (.lt (.bin .add (.v 46) (.c (.i .i64 1))) (.cont 0 [(.v 45), (.v 50)]))))))
  (.lt (.bin .lss (.v 44) (.c (.i .u8 8))) (.ret [(false, [(.v 48)])])))))
theorem atlasref13_Right_c : compile envIrSet 3000 9 = .ok atlasref13_Right_ir := by kernel_rfl
theorem atlasref13_Right_p : paramShape Tryd.prog 9 = some [(true, 45)] := by kernel_rfl
theorem atlasref13_Right_k : Known gAll 9 [(true, 45)] atlasref13_Right_ir := ⟨envIrSet, 3000, rfl, rfl, atlasref13_Right_c, atlasref13_Right_p⟩
/-- atlas/atlasref12.May -/
def atlasref12_May_ir : IR :=
  (.lt (.un .not (.v 0)) (.ite (.v 11)
  (.lt (.ite (.eqt true (.v 0) (.c (.b false))) (.ite (.eqt false (.v 1) (.c (.i .u64 0))) (.ite (.eqt true (.v 2) (.c (.b false))) (.ite (.eqt false (.v 3) (.c (.i .i64 0))) (.ite (.eqt false (.v 4) (.c (.i .u64 0))) (.ite (.eqt false (.v 5) (.c (.i .u64 0))) (.ite (.eqt true (.v 6) (.c (.b false))) (.ite (.eqt true (.v 7) (.c (.b false))) (.ite (.eqt true (.v 8) (.c (.b false))) (.ite (.eqt true (.v 9) (.c (.b false))) (.ite (.eqt true (.v 10) (.c (.b false))) (.c (.b true)) (.c (.b false))) (.c (.b false))) (.c (.b false))) (.c (.b false))) (.c (.b false))) (.c (.b false))) (.c (.b false))) (.c (.b false))) (.c (.b false))) (.c (.b false))) (.c (.b false))) (.ret [(false, [(.v 12)])]))
  (.lt (.bin .neq (.v 3) (.c (.i .i64 0))) (.ite (.v 12)
  (.lt (.bin .neq (.v 3) (.c (.i .i64 1))) (.ite (.v 13)
  (.lt (.bin .neq (.v 3) (.c (.i .i64 2))) (.ite (.v 14)
  (.ret [(false, [(.c (.b false))])])
  (.call 31 [(false, [(.v 3)])] [(false, 1)]
  (.lt (.bin .lss (.v 4) (.c (.i .u64 134217728))) (.ite (.v 16)
  (.lt (.bin .lss (.v 5) (.c (.i .u64 17592186044416))) (.ite (.v 17)
  (.lt (.bin .lss (.v 1) (.c (.i .u64 65536))) (.ite (.v 18)
  (.lt (.bin .rem (.v 4) (.v 15)) (.lt (.bin .eql (.v 19) (.c (.i .u64 0))) (.ite (.v 20)
  (.lt (.bin .rem (.v 5) (.v 15)) (.lt (.bin .eql (.v 21) (.c (.i .u64 0))) (.ret [(false, [(.v 22)])])))
  (.ret [(false, [(.c (.b false))])]))))
  (.ret [(false, [(.c (.b false))])])))
  (.ret [(false, [(.c (.b false))])])))
  (.ret [(false, [(.c (.b false))])]))))))
  (.call 31 [(false, [(.v 3)])] [(false, 1)]
  (.lt (.bin .lss (.v 4) (.c (.i .u64 134217728))) (.ite (.v 15)
  (.lt (.bin .lss (.v 5) (.c (.i .u64 17592186044416))) (.ite (.v 16)
  (.lt (.bin .lss (.v 1) (.c (.i .u64 65536))) (.ite (.v 17)
  (.lt (.bin .rem (.v 4) (.v 14)) (.lt (.bin .eql (.v 18) (.c (.i .u64 0))) (.ite (.v 19)
  (.lt (.bin .rem (.v 5) (.v 14)) (.lt (.bin .eql (.v 20) (.c (.i .u64 0))) (.ret [(false, [(.v 21)])])))
  (.ret [(false, [(.c (.b false))])]))))
  (.ret [(false, [(.c (.b false))])])))
  (.ret [(false, [(.c (.b false))])])))
  (.ret [(false, [(.c (.b false))])]))))))
  (.call 31 [(false, [(.v 3)])] [(false, 1)]
  (.lt (.bin .lss (.v 4) (.c (.i .u64 134217728))) (.ite (.v 14)
  (.lt (.bin .lss (.v 5) (.c (.i .u64 17592186044416))) (.ite (.v 15)
  (.lt (.bin .lss (.v 1) (.c (.i .u64 65536))) (.ite (.v 16)
  (.lt (.bin .rem (.v 4) (.v 13)) (.lt (.bin .eql (.v 17) (.c (.i .u64 0))) (.ite (.v 18)
  (.lt (.bin .rem (.v 5) (.v 13)) (.lt (.bin .eql (.v 19) (.c (.i .u64 0))) (.ret [(false, [(.v 20)])])))
  (.ret [(false, [(.c (.b false))])]))))
  (.ret [(false, [(.c (.b false))])])))
  (.ret [(false, [(.c (.b false))])])))
  (.ret [(false, [(.c (.b false))])]))))))))
theorem atlasref12_May_c : compile envIrSet 3000 10 = .ok atlasref12_May_ir := by kernel_rfl
theorem atlasref12_May_p : paramShape Tryd.prog 10 = some [(true, 11)] := by kernel_rfl
theorem atlasref12_May_k : Known gAll 10 [(true, 11)] atlasref12_May_ir := ⟨envIrSet, 3000, rfl, rfl, atlasref12_May_c, atlasref12_May_p⟩
/-- atlas/atlasref05.Is -/
def atlasref05_Is_ir : IR :=
  (.lt (.bin .lss (.v 0) (.c (.i .u64 274877906944))) (.ite (.v 1)
  (.ret [(false, [(.c (.b true))])])
  (.lt (.bin .geq (.v 0) (.c (.i .u64 18446743798831644672))) (.ret [(false, [(.v 2)])]))))
theorem atlasref05_Is_c : compile envIrSet 3000 11 = .ok atlasref05_Is_ir := by kernel_rfl
theorem atlasref05_Is_p : paramShape Tryd.prog 11 = some [(false, 1)] := by kernel_rfl
theorem atlasref05_Is_k : Known gAll 11 [(false, 1)] atlasref05_Is_ir := ⟨envIrSet, 3000, rfl, rfl, atlasref05_Is_c, atlasref05_Is_p⟩
/-- atlas/set.Find -/
def set_Find_ir : IR :=
  (.lt (.bin .eql (.v 3) (.v 47)) (.ite (.v 48)
  (.call 33 [(true, [(.v 0), (.v 1), (.v 2), (.v 3), (.v 4), (.v 5), (.v 6), (.v 7), (.v 8), (.v 9), (.v 10)]), (false, [(.v 45)]), (false, [(.v 46)])] [(false, 1)]
  (.ite (.v 49)
  (.ret [(false, [(.c (.i .i64 0))]), (false, [(.c (.b true))])])
  (.lt (.bin .eql (.v 14) (.v 47)) (.ite (.v 50)
  (.call 33 [(true, [(.v 11), (.v 12), (.v 13), (.v 14), (.v 15), (.v 16), (.v 17), (.v 18), (.v 19), (.v 20), (.v 21)]), (false, [(.v 45)]), (false, [(.v 46)])] [(false, 1)]
  (.ite (.v 51)
  (.ret [(false, [(.c (.i .i64 1))]), (false, [(.c (.b true))])])
  (.lt (.bin .eql (.v 25) (.v 47)) (.ite (.v 52)
  (.call 33 [(true, [(.v 22), (.v 23), (.v 24), (.v 25), (.v 26), (.v 27), (.v 28), (.v 29), (.v 30), (.v 31), (.v 32)]), (false, [(.v 45)]), (false, [(.v 46)])] [(false, 1)]
  (.ite (.v 53)
  (.ret [(false, [(.c (.i .i64 2))]), (false, [(.c (.b true))])])
  (.lt (.bin .eql (.v 36) (.v 47)) (.ite (.v 54)
  (.call 33 [(true, [(.v 33), (.v 34), (.v 35), (.v 36), (.v 37), (.v 38), (.v 39), (.v 40), (.v 41), (.v 42), (.v 43)]), (false, [(.v 45)]), (false, [(.v 46)])] [(false, 1)]
  (.ite (.v 55)
  (.ret [(false, [(.c (.i .i64 3))]), (false, [(.c (.b true))])])
  (.ret [(false, [(.c (.i .i64 0))]), (false, [(.c (.b false))])])))
  (.ret [(false, [(.c (.i .i64 0))]), (false, [(.c (.b false))])])))))
  (.lt (.bin .eql (.v 36) (.v 47)) (.ite (.v 53)
  (.call 33 [(true, [(.v 33), (.v 34), (.v 35), (.v 36), (.v 37), (.v 38), (.v 39), (.v 40), (.v 41), (.v 42), (.v 43)]), (false, [(.v 45)]), (false, [(.v 46)])] [(false, 1)]
  (.ite (.v 54)
  (.ret [(false, [(.c (.i .i64 3))]), (false, [(.c (.b true))])])
  (.ret [(false, [(.c (.i .i64 0))]), (false, [(.c (.b false))])])))
  (.ret [(false, [(.c (.i .i64 0))]), (false, [(.c (.b false))])])))))))
  (.lt (.bin .eql (.v 25) (.v 47)) (.ite (.v 51)
  (.call 33 [(true, [(.v 22), (.v 23), (.v 24), (.v 25), (.v 26), (.v 27), (.v 28), (.v 29), (.v 30), (.v 31), (.v 32)]), (false, [(.v 45)]), (false, [(.v 46)])] [(false, 1)]
  (.ite (.v 52)
  (.ret [(false, [(.c (.i .i64 2))]), (false, [(.c (.b true))])])
  (.lt (.bin .eql (.v 36) (.v 47)) (.ite (.v 53)
  (.call 33 [(true, [(.v 33), (.v 34), (.v 35), (.v 36), (.v 37), (.v 38), (.v 39), (.v 40), (.v 41), (.v 42), (.v 43)]), (false, [(.v 45)]), (false, [(.v 46)])] [(false, 1)]
  (.ite (.v 54)
  (.ret [(false, [(.c (.i .i64 3))]), (false, [(.c (.b true))])])
  (.ret [(false, [(.c (.i .i64 0))]), (false, [(.c (.b false))])])))
  (.ret [(false, [(.c (.i .i64 0))]), (false, [(.c (.b false))])])))))
  (.lt (.bin .eql (.v 36) (.v 47)) (.ite (.v 52)
  (.call 33 [(true, [(.v 33), (.v 34), (.v 35), (.v 36), (.v 37), (.v 38), (.v 39), (.v 40), (.v 41), (.v 42), (.v 43)]), (false, [(.v 45)]), (false, [(.v 46)])] [(false, 1)]
  (.ite (.v 53)
  (.ret [(false, [(.c (.i .i64 3))]), (false, [(.c (.b true))])])
  (.ret [(false, [(.c (.i .i64 0))]), (false, [(.c (.b false))])])))
  (.ret [(false, [(.c (.i .i64 0))]), (false, [(.c (.b false))])])))))))))
  (.lt (.bin .eql (.v 14) (.v 47)) (.ite (.v 49)
  (.call 33 [(true, [(.v 11), (.v 12), (.v 13), (.v 14), (.v 15), (.v 16), (.v 17), (.v 18), (.v 19), (.v 20), (.v 21)]), (false, [(.v 45)]), (false, [(.v 46)])] [(false, 1)]
  (.ite (.v 50)
  (.ret [(false, [(.c (.i .i64 1))]), (false, [(.c (.b true))])])
  (.lt (.bin .eql (.v 25) (.v 47)) (.ite (.v 51)
  (.call 33 [(true, [(.v 22), (.v 23), (.v 24), (.v 25), (.v 26), (.v 27), (.v 28), (.v 29), (.v 30), (.v 31), (.v 32)]), (false, [(.v 45)]), (false, [(.v 46)])] [(false, 1)]
  (.ite (.v 52)
  (.ret [(false, [(.c (.i .i64 2))]), (false, [(.c (.b true))])])
  (.lt (.bin .eql (.v 36) (.v 47)) (.ite (.v 53)
  (.call 33 [(true, [(.v 33), (.v 34), (.v 35), (.v 36), (.v 37), (.v 38), (.v 39), (.v 40), (.v 41), (.v 42), (.v 43)]), (false, [(.v 45)]), (false, [(.v 46)])] [(false, 1)]
  (.ite (.v 54)
  (.ret [(false, [(.c (.i .i64 3))]), (false, [(.c (.b true))])])
  (.ret [(false, [(.c (.i .i64 0))]), (false, [(.c (.b false))])])))
  (.ret [(false, [(.c (.i .i64 0))]), (false, [(.c (.b false))])])))))
  (.lt (.bin .eql (.v 36) (.v 47)) (.ite (.v 52)
  (.call 33 [(true, [(.v 33), (.v 34), (.v 35), (.v 36), (.v 37), (.v 38), (.v 39), (.v 40), (.v 41), (.v 42), (.v 43)]), (false, [(.v 45)]), (false, [(.v 46)])] [(false, 1)]
  (.ite (.v 53)
  (.ret [(false, [(.c (.i .i64 3))]), (false, [(.c (.b true))])])
  (.ret [(false, [(.c (.i .i64 0))]), (false, [(.c (.b false))])])))
  (.ret [(false, [(.c (.i .i64 0))]), (false, [(.c (.b false))])])))))))
  (.lt (.bin .eql (.v 25) (.v 47)) (.ite (.v 50)
  (.call 33 [(true, [(.v 22), (.v 23), (.v 24), (.v 25), (.v 26), (.v 27), (.v 28), (.v 29), (.v 30), (.v 31), (.v 32)]), (false, [(.v 45)]), (false, [(.v 46)])] [(false, 1)]
  (.ite (.v 51)
  (.ret [(false, [(.c (.i .i64 2))]), (false, [(.c (.b true))])])
  (.lt (.bin .eql (.v 36) (.v 47)) (.ite (.v 52)
  (.call 33 [(true, [(.v 33), (.v 34), (.v 35), (.v 36), (.v 37), (.v 38), (.v 39), (.v 40), (.v 41), (.v 42), (.v 43)]), (false, [(.v 45)]), (false, [(.v 46)])] [(false, 1)]
  (.ite (.v 53)
  (.ret [(false, [(.c (.i .i64 3))]), (false, [(.c (.b true))])])
  (.ret [(false, [(.c (.i .i64 0))]), (false, [(.c (.b false))])])))
  (.ret [(false, [(.c (.i .i64 0))]), (false, [(.c (.b false))])])))))
  (.lt (.bin .eql (.v 36) (.v 47)) (.ite (.v 51)
  (.call 33 [(true, [(.v 33), (.v 34), (.v 35), (.v 36), (.v 37), (.v 38), (.v 39), (.v 40), (.v 41), (.v 42), (.v 43)]), (false, [(.v 45)]), (false, [(.v 46)])] [(false, 1)]
  (.ite (.v 52)
  (.ret [(false, [(.c (.i .i64 3))]), (false, [(.c (.b true))])])
  (.ret [(false, [(.c (.i .i64 0))]), (false, [(.c (.b false))])])))
  (.ret [(false, [(.c (.i .i64 0))]), (false, [(.c (.b false))])])))))))))
theorem set_Find_c : compile envIrSet 3000 12 = .ok set_Find_ir := by kernel_rfl
theorem set_Find_p : paramShape Tryd.prog 12 = some [(true, 45), (false, 1), (false, 1), (false, 1)] := by kernel_rfl
theorem set_Find_k : Known gAll 12 [(true, 45), (false, 1), (false, 1), (false, 1)] set_Find_ir := ⟨envIrSet, 3000, rfl, rfl, set_Find_c, set_Find_p⟩
/-- atlas/atlasref13.Find -/
def atlasref13_Find_ir : IR :=
  (.loop [(.c (.i .i64 0)), (.c (.b false)), (.c (.i .i64 0))]
  (.lt (.bin .lss (.v 50) (.c (.i .i64 4))) (.ite (.v 51)
  (.chk (.rng (.v 50) 4) (.lt (.bin .eql (.ite (.isk (.v 50) 0) (.v 3) (.ite (.isk (.v 50) 1) (.v 14) (.ite (.isk (.v 50) 2) (.v 25) (.v 36)))) (.v 47)) (.ite (.v 52)
  (.chk (.rng (.v 50) 4) (.call 25 [(true, [(.ite (.isk (.v 50) 0) (.v 0) (.ite (.isk (.v 50) 1) (.v 11) (.ite (.isk (.v 50) 2) (.v 22) (.v 33)))), (.ite (.isk (.v 50) 0) (.v 1) (.ite (.isk (.v 50) 1) (.v 12) (.ite (.isk (.v 50) 2) (.v 23) (.v 34)))), (.ite (.isk (.v 50) 0) (.v 2) (.ite (.isk (.v 50) 1) (.v 13) (.ite (.isk (.v 50) 2) (.v 24) (.v 35)))), (.ite (.isk (.v 50) 0) (.v 3) (.ite (.isk (.v 50) 1) (.v 14) (.ite (.isk (.v 50) 2) (.v 25) (.v 36)))), (.ite (.isk (.v 50) 0) (.v 4) (.ite (.isk (.v 50) 1) (.v 15) (.ite (.isk (.v 50) 2) (.v 26) (.v 37)))), (.ite (.isk (.v 50) 0) (.v 5) (.ite (.isk (.v 50) 1) (.v 16) (.ite (.isk (.v 50) 2) (.v 27) (.v 38)))), (.ite (.isk (.v 50) 0) (.v 6) (.ite (.isk (.v 50) 1) (.v 17) (.ite (.isk (.v 50) 2) (.v 28) (.v 39)))), (.ite (.isk (.v 50) 0) (.v 7) (.ite (.isk (.v 50) 1) (.v 18) (.ite (.isk (.v 50) 2) (.v 29) (.v 40)))), (.ite (.isk (.v 50) 0) (.v 8) (.ite (.isk (.v 50) 1) (.v 19) (.ite (.isk (.v 50) 2) (.v 30) (.v 41)))), (.ite (.isk (.v 50) 0) (.v 9) (.ite (.isk (.v 50) 1) (.v 20) (.ite (.isk (.v 50) 2) (.v 31) (.v 42)))), (.ite (.isk (.v 50) 0) (.v 10) (.ite (.isk (.v 50) 1) (.v 21) (.ite (.isk (.v 50) 2) (.v 32) (.v 43))))]), (false, [(.v 45)]), (false, [(.v 46)])] [(false, 1)]
  (.ite (.v 53)
  (.ret [(false, [(.v 50)]), (false, [(.c (.b true))])])
  (.lt (.bin .add (.v 50) (.c (.i .i64 1))) (.cont 0 [(.v 48), (.v 49), (.v 54)])))))
  (.lt (.bin .add (.v 50) (.c (.i .i64 1))) (.cont 0 [(.v 48), (.v 49), (.v 53)])))))
  (.ret [(false, [(.c (.i .i64 0))]), (false, [(.c (.b false))])]))))
theorem atlasref13_Find_c : compile envIrSet 3000 13 = .ok atlasref13_Find_ir := by kernel_rfl
theorem atlasref13_Find_p : paramShape Tryd.prog 13 = some [(true, 45), (false, 1), (false, 1), (false, 1)] := by kernel_rfl
theorem atlasref13_Find_k : Known gAll 13 [(true, 45), (false, 1), (false, 1), (false, 1)] atlasref13_Find_ir := ⟨envIrSet, 3000, rfl, rfl, atlasref13_Find_c, atlasref13_Find_p⟩
/-- atlas/set.Use -/
def set_Use_ir : IR :=
  (.call 34 [(false, [(.v 44)]), (false, [(.v 45)])] [(false, 1)]
  (.ret [(true, [(.v 0), (.v 1), (.v 2), (.v 3), (.v 4), (.v 5), (.v 6), (.v 7), (.v 8), (.v 9), (.v 10), (.v 11), (.v 12), (.v 13), (.v 14), (.v 15), (.v 16), (.v 17), (.v 18), (.v 19), (.v 20), (.v 21), (.v 22), (.v 23), (.v 24), (.v 25), (.v 26), (.v 27), (.v 28), (.v 29), (.v 30), (.v 31), (.v 32), (.v 33), (.v 34), (.v 35), (.v 36), (.v 37), (.v 38), (.v 39), (.v 40), (.v 41), (.v 42), (.v 43), (.v 46)])]))
theorem set_Use_c : compile envIrSet 3000 14 = .ok set_Use_ir := by kernel_rfl
theorem set_Use_p : paramShape Tryd.prog 14 = some [(true, 45), (false, 1)] := by kernel_rfl
theorem set_Use_k : Known gAll 14 [(true, 45), (false, 1)] set_Use_ir := ⟨envIrSet, 3000, rfl, rfl, set_Use_c, set_Use_p⟩
/-- atlas/atlasref13.Use -/
def atlasref13_Use_ir : IR :=
  (.call 35 [(false, [(.v 44)]), (false, [(.v 45)])] [(false, 1)]
  (.ret [(true, [(.v 0), (.v 1), (.v 2), (.v 3), (.v 4), (.v 5), (.v 6), (.v 7), (.v 8), (.v 9), (.v 10), (.v 11), (.v 12), (.v 13), (.v 14), (.v 15), (.v 16), (.v 17), (.v 18), (.v 19), (.v 20), (.v 21), (.v 22), (.v 23), (.v 24), (.v 25), (.v 26), (.v 27), (.v 28), (.v 29), (.v 30), (.v 31), (.v 32), (.v 33), (.v 34), (.v 35), (.v 36), (.v 37), (.v 38), (.v 39), (.v 40), (.v 41), (.v 42), (.v 43), (.v 46)])]))
theorem atlasref13_Use_c : compile envIrSet 3000 15 = .ok atlasref13_Use_ir := by kernel_rfl
theorem atlasref13_Use_p : paramShape Tryd.prog 15 = some [(true, 45), (false, 1)] := by kernel_rfl
theorem atlasref13_Use_k : Known gAll 15 [(true, 45), (false, 1)] atlasref13_Use_ir := ⟨envIrSet, 3000, rfl, rfl, atlasref13_Use_c, atlasref13_Use_p⟩
/-- atlas/set.Drop -/
def set_Drop_ir : IR :=
  (.chk (.rng (.v 45) 4) (.ret [(true, [(.ite (.isk (.v 45) 0) (.c (.b false)) (.v 0)), (.ite (.isk (.v 45) 0) (.c (.i .u64 0)) (.v 1)), (.ite (.isk (.v 45) 0) (.c (.b false)) (.v 2)), (.ite (.isk (.v 45) 0) (.c (.i .i64 0)) (.v 3)), (.ite (.isk (.v 45) 0) (.c (.i .u64 0)) (.v 4)), (.ite (.isk (.v 45) 0) (.c (.i .u64 0)) (.v 5)), (.ite (.isk (.v 45) 0) (.c (.b false)) (.v 6)), (.ite (.isk (.v 45) 0) (.c (.b false)) (.v 7)), (.ite (.isk (.v 45) 0) (.c (.b false)) (.v 8)), (.ite (.isk (.v 45) 0) (.c (.b false)) (.v 9)), (.ite (.isk (.v 45) 0) (.c (.b false)) (.v 10)), (.ite (.isk (.v 45) 1) (.c (.b false)) (.v 11)), (.ite (.isk (.v 45) 1) (.c (.i .u64 0)) (.v 12)), (.ite (.isk (.v 45) 1) (.c (.b false)) (.v 13)), (.ite (.isk (.v 45) 1) (.c (.i .i64 0)) (.v 14)), (.ite (.isk (.v 45) 1) (.c (.i .u64 0)) (.v 15)), (.ite (.isk (.v 45) 1) (.c (.i .u64 0)) (.v 16)), (.ite (.isk (.v 45) 1) (.c (.b false)) (.v 17)), (.ite (.isk (.v 45) 1) (.c (.b false)) (.v 18)), (.ite (.isk (.v 45) 1) (.c (.b false)) (.v 19)), (.ite (.isk (.v 45) 1) (.c (.b false)) (.v 20)), (.ite (.isk (.v 45) 1) (.c (.b false)) (.v 21)), (.ite (.isk (.v 45) 2) (.c (.b false)) (.v 22)), (.ite (.isk (.v 45) 2) (.c (.i .u64 0)) (.v 23)), (.ite (.isk (.v 45) 2) (.c (.b false)) (.v 24)), (.ite (.isk (.v 45) 2) (.c (.i .i64 0)) (.v 25)), (.ite (.isk (.v 45) 2) (.c (.i .u64 0)) (.v 26)), (.ite (.isk (.v 45) 2) (.c (.i .u64 0)) (.v 27)), (.ite (.isk (.v 45) 2) (.c (.b false)) (.v 28)), (.ite (.isk (.v 45) 2) (.c (.b false)) (.v 29)), (.ite (.isk (.v 45) 2) (.c (.b false)) (.v 30)), (.ite (.isk (.v 45) 2) (.c (.b false)) (.v 31)), (.ite (.isk (.v 45) 2) (.c (.b false)) (.v 32)), (.ite (.isk (.v 45) 3) (.c (.b false)) (.v 33)), (.ite (.isk (.v 45) 3) (.c (.i .u64 0)) (.v 34)), (.ite (.isk (.v 45) 3) (.c (.b false)) (.v 35)), (.ite (.isk (.v 45) 3) (.c (.i .i64 0)) (.v 36)), (.ite (.isk (.v 45) 3) (.c (.i .u64 0)) (.v 37)), (.ite (.isk (.v 45) 3) (.c (.i .u64 0)) (.v 38)), (.ite (.isk (.v 45) 3) (.c (.b false)) (.v 39)), (.ite (.isk (.v 45) 3) (.c (.b false)) (.v 40)), (.ite (.isk (.v 45) 3) (.c (.b false)) (.v 41)), (.ite (.isk (.v 45) 3) (.c (.b false)) (.v 42)), (.ite (.isk (.v 45) 3) (.c (.b false)) (.v 43)), (.v 44)])]))
theorem set_Drop_c : compile envIrSet 3000 16 = .ok set_Drop_ir := by kernel_rfl
theorem set_Drop_p : paramShape Tryd.prog 16 = some [(true, 45), (false, 1)] := by kernel_rfl
theorem set_Drop_k : Known gAll 16 [(true, 45), (false, 1)] set_Drop_ir := ⟨envIrSet, 3000, rfl, rfl, set_Drop_c, set_Drop_p⟩
/-- atlas/atlasref13.Drop -/
def atlasref13_Drop_ir : IR :=
  (.chk (.rng (.v 45) 4) (.ret [(true, [(.ite (.isk (.v 45) 0) (.c (.b false)) (.v 0)), (.ite (.isk (.v 45) 0) (.c (.i .u64 0)) (.v 1)), (.ite (.isk (.v 45) 0) (.c (.b false)) (.v 2)), (.ite (.isk (.v 45) 0) (.c (.i .i64 0)) (.v 3)), (.ite (.isk (.v 45) 0) (.c (.i .u64 0)) (.v 4)), (.ite (.isk (.v 45) 0) (.c (.i .u64 0)) (.v 5)), (.ite (.isk (.v 45) 0) (.c (.b false)) (.v 6)), (.ite (.isk (.v 45) 0) (.c (.b false)) (.v 7)), (.ite (.isk (.v 45) 0) (.c (.b false)) (.v 8)), (.ite (.isk (.v 45) 0) (.c (.b false)) (.v 9)), (.ite (.isk (.v 45) 0) (.c (.b false)) (.v 10)), (.ite (.isk (.v 45) 1) (.c (.b false)) (.v 11)), (.ite (.isk (.v 45) 1) (.c (.i .u64 0)) (.v 12)), (.ite (.isk (.v 45) 1) (.c (.b false)) (.v 13)), (.ite (.isk (.v 45) 1) (.c (.i .i64 0)) (.v 14)), (.ite (.isk (.v 45) 1) (.c (.i .u64 0)) (.v 15)), (.ite (.isk (.v 45) 1) (.c (.i .u64 0)) (.v 16)), (.ite (.isk (.v 45) 1) (.c (.b false)) (.v 17)), (.ite (.isk (.v 45) 1) (.c (.b false)) (.v 18)), (.ite (.isk (.v 45) 1) (.c (.b false)) (.v 19)), (.ite (.isk (.v 45) 1) (.c (.b false)) (.v 20)), (.ite (.isk (.v 45) 1) (.c (.b false)) (.v 21)), (.ite (.isk (.v 45) 2) (.c (.b false)) (.v 22)), (.ite (.isk (.v 45) 2) (.c (.i .u64 0)) (.v 23)), (.ite (.isk (.v 45) 2) (.c (.b false)) (.v 24)), (.ite (.isk (.v 45) 2) (.c (.i .i64 0)) (.v 25)), (.ite (.isk (.v 45) 2) (.c (.i .u64 0)) (.v 26)), (.ite (.isk (.v 45) 2) (.c (.i .u64 0)) (.v 27)), (.ite (.isk (.v 45) 2) (.c (.b false)) (.v 28)), (.ite (.isk (.v 45) 2) (.c (.b false)) (.v 29)), (.ite (.isk (.v 45) 2) (.c (.b false)) (.v 30)), (.ite (.isk (.v 45) 2) (.c (.b false)) (.v 31)), (.ite (.isk (.v 45) 2) (.c (.b false)) (.v 32)), (.ite (.isk (.v 45) 3) (.c (.b false)) (.v 33)), (.ite (.isk (.v 45) 3) (.c (.i .u64 0)) (.v 34)), (.ite (.isk (.v 45) 3) (.c (.b false)) (.v 35)), (.ite (.isk (.v 45) 3) (.c (.i .i64 0)) (.v 36)), (.ite (.isk (.v 45) 3) (.c (.i .u64 0)) (.v 37)), (.ite (.isk (.v 45) 3) (.c (.i .u64 0)) (.v 38)), (.ite (.isk (.v 45) 3) (.c (.b false)) (.v 39)), (.ite (.isk (.v 45) 3) (.c (.b false)) (.v 40)), (.ite (.isk (.v 45) 3) (.c (.b false)) (.v 41)), (.ite (.isk (.v 45) 3) (.c (.b false)) (.v 42)), (.ite (.isk (.v 45) 3) (.c (.b false)) (.v 43)), (.v 44)])]))
theorem atlasref13_Drop_c : compile envIrSet 3000 17 = .ok atlasref13_Drop_ir := by kernel_rfl
theorem atlasref13_Drop_p : paramShape Tryd.prog 17 = some [(true, 45), (false, 1)] := by kernel_rfl
theorem atlasref13_Drop_k : Known gAll 17 [(true, 45), (false, 1)] atlasref13_Drop_ir := ⟨envIrSet, 3000, rfl, rfl, atlasref13_Drop_c, atlasref13_Drop_p⟩
/-- atlas/set.Same -/
def set_Same_ir : IR :=
  (.lt (.un .not (.v 0)) (.ite (.v 22)
  (.ret [(false, [(.c (.b false))])])
  (.lt (.un .not (.v 11)) (.ite (.v 23)
  (.ret [(false, [(.c (.b false))])])
  (.lt (.bin .neq (.v 3) (.v 14)) (.ite (.v 24)
  (.ret [(false, [(.c (.b false))])])
  (.lt (.bin .neq (.v 4) (.v 15)) (.ite (.v 25)
  (.ret [(false, [(.c (.b false))])])
  (.ite (.v 2)
  (.ret [(false, [(.c (.b true))])])
  (.ite (.v 13)
  (.ret [(false, [(.c (.b true))])])
  (.lt (.bin .eql (.v 1) (.v 12)) (.ret [(false, [(.v 26)])]))))))))))))
theorem set_Same_c : compile envIrSet 3000 18 = .ok set_Same_ir := by kernel_rfl
theorem set_Same_p : paramShape Tryd.prog 18 = some [(true, 11), (true, 11)] := by kernel_rfl
theorem set_Same_k : Known gAll 18 [(true, 11), (true, 11)] set_Same_ir := ⟨envIrSet, 3000, rfl, rfl, set_Same_c, set_Same_p⟩
/-- atlas/atlasref13.Same -/
def atlasref13_Same_ir : IR :=
  (.ite (.v 0)
  (.ite (.v 11)
  (.lt (.bin .eql (.v 3) (.v 14)) (.ite (.v 22)
  (.lt (.bin .eql (.v 4) (.v 15)) (.ite (.v 23)
  (.lt (.bin .eql (.v 1) (.v 12)) (.ite (.v 24)
  (.ret [(false, [(.c (.b true))])])
  (.ite (.v 2)
  (.ret [(false, [(.c (.b true))])])
  (.ret [(false, [(.v 13)])]))))
  (.ret [(false, [(.c (.b false))])])))
  (.ret [(false, [(.c (.b false))])])))
  (.ret [(false, [(.c (.b false))])]))
  (.ret [(false, [(.c (.b false))])]))
theorem atlasref13_Same_c : compile envIrSet 3000 19 = .ok atlasref13_Same_ir := by kernel_rfl
theorem atlasref13_Same_p : paramShape Tryd.prog 19 = some [(true, 11), (true, 11)] := by kernel_rfl
theorem atlasref13_Same_k : Known gAll 19 [(true, 11), (true, 11)] atlasref13_Same_ir := ⟨envIrSet, 3000, rfl, rfl, atlasref13_Same_c, atlasref13_Same_p⟩
/-- atlas/set.Put -/
def set_Put_ir : IR :=
  (.loop [(.c (.i .i64 0)), (.v 0), (.v 1), (.v 2), (.v 3), (.v 4), (.v 5), (.v 6), (.v 7), (.v 8), (.v 9), (.v 10), (.v 11), (.v 12), (.v 13), (.v 14), (.v 15), (.v 16), (.v 17), (.v 18), (.v 19), (.v 20), (.v 21), (.v 22), (.v 23), (.v 24), (.v 25), (.v 26), (.v 27), (.v 28), (.v 29), (.v 30), (.v 31), (.v 32), (.v 33), (.v 34), (.v 35), (.v 36), (.v 37), (.v 38), (.v 39), (.v 40), (.v 41), (.v 42), (.v 43), (.v 44)]
  (.lt (.bin .lss (.v 57) (.c (.i .i64 4))) (.ite (.v 103)
  (.chk (.rng (.v 57) 4) (.call 18 [(true, [(.v 45), (.v 46), (.v 47), (.v 48), (.v 49), (.v 50), (.v 51), (.v 52), (.v 53), (.v 54), (.v 55)]), (true, [(.ite (.isk (.v 57) 0) (.v 0) (.ite (.isk (.v 57) 1) (.v 11) (.ite (.isk (.v 57) 2) (.v 22) (.v 33)))), (.ite (.isk (.v 57) 0) (.v 1) (.ite (.isk (.v 57) 1) (.v 12) (.ite (.isk (.v 57) 2) (.v 23) (.v 34)))), (.ite (.isk (.v 57) 0) (.v 2) (.ite (.isk (.v 57) 1) (.v 13) (.ite (.isk (.v 57) 2) (.v 24) (.v 35)))), (.ite (.isk (.v 57) 0) (.v 3) (.ite (.isk (.v 57) 1) (.v 14) (.ite (.isk (.v 57) 2) (.v 25) (.v 36)))), (.ite (.isk (.v 57) 0) (.v 4) (.ite (.isk (.v 57) 1) (.v 15) (.ite (.isk (.v 57) 2) (.v 26) (.v 37)))), (.ite (.isk (.v 57) 0) (.v 5) (.ite (.isk (.v 57) 1) (.v 16) (.ite (.isk (.v 57) 2) (.v 27) (.v 38)))), (.ite (.isk (.v 57) 0) (.v 6) (.ite (.isk (.v 57) 1) (.v 17) (.ite (.isk (.v 57) 2) (.v 28) (.v 39)))), (.ite (.isk (.v 57) 0) (.v 7) (.ite (.isk (.v 57) 1) (.v 18) (.ite (.isk (.v 57) 2) (.v 29) (.v 40)))), (.ite (.isk (.v 57) 0) (.v 8) (.ite (.isk (.v 57) 1) (.v 19) (.ite (.isk (.v 57) 2) (.v 30) (.v 41)))), (.ite (.isk (.v 57) 0) (.v 9) (.ite (.isk (.v 57) 1) (.v 20) (.ite (.isk (.v 57) 2) (.v 31) (.v 42)))), (.ite (.isk (.v 57) 0) (.v 10) (.ite (.isk (.v 57) 1) (.v 21) (.ite (.isk (.v 57) 2) (.v 32) (.v 43))))])] [(false, 1)]
  (.ite (.v 104)
  (.call 16 [(true, [(.v 58), (.v 59), (.v 60), (.v 61), (.v 62), (.v 63), (.v 64), (.v 65), (.v 66), (.v 67), (.v 68), (.v 69), (.v 70), (.v 71), (.v 72), (.v 73), (.v 74), (.v 75), (.v 76), (.v 77), (.v 78), (.v 79), (.v 80), (.v 81), (.v 82), (.v 83), (.v 84), (.v 85), (.v 86), (.v 87), (.v 88), (.v 89), (.v 90), (.v 91), (.v 92), (.v 93), (.v 94), (.v 95), (.v 96), (.v 97), (.v 98), (.v 99), (.v 100), (.v 101), (.v 102)]), (false, [(.v 57)])] [(true, 45)]
  (.lt (.bin .add (.v 57) (.c (.i .i64 1))) (.cont 0 [(.v 150), (.v 105), (.v 106), (.v 107), (.v 108), (.v 109), (.v 110), (.v 111), (.v 112), (.v 113), (.v 114), (.v 115), (.v 116), (.v 117), (.v 118), (.v 119), (.v 120), (.v 121), (.v 122), (.v 123), (.v 124), (.v 125), (.v 126), (.v 127), (.v 128), (.v 129), (.v 130), (.v 131), (.v 132), (.v 133), (.v 134), (.v 135), (.v 136), (.v 137), (.v 138), (.v 139), (.v 140), (.v 141), (.v 142), (.v 143), (.v 144), (.v 145), (.v 146), (.v 147), (.v 148), (.v 149)])))
  (.lt (.bin .add (.v 57) (.c (.i .i64 1))) (.cont 0 [(.v 105), (.v 58), (.v 59), (.v 60), (.v 61), (.v 62), (.v 63), (.v 64), (.v 65), (.v 66), (.v 67), (.v 68), (.v 69), (.v 70), (.v 71), (.v 72), (.v 73), (.v 74), (.v 75), (.v 76), (.v 77), (.v 78), (.v 79), (.v 80), (.v 81), (.v 82), (.v 83), (.v 84), (.v 85), (.v 86), (.v 87), (.v 88), (.v 89), (.v 90), (.v 91), (.v 92), (.v 93), (.v 94), (.v 95), (.v 96), (.v 97), (.v 98), (.v 99), (.v 100), (.v 101), (.v 102)])))))
  (.call 36 [(true, [(.v 58), (.v 59), (.v 60), (.v 61), (.v 62), (.v 63), (.v 64), (.v 65), (.v 66), (.v 67), (.v 68), (.v 69), (.v 70), (.v 71), (.v 72), (.v 73), (.v 74), (.v 75), (.v 76), (.v 77), (.v 78), (.v 79), (.v 80), (.v 81), (.v 82), (.v 83), (.v 84), (.v 85), (.v 86), (.v 87), (.v 88), (.v 89), (.v 90), (.v 91), (.v 92), (.v 93), (.v 94), (.v 95), (.v 96), (.v 97), (.v 98), (.v 99), (.v 100), (.v 101), (.v 102)]), (false, [(.v 56)])] [(false, 1)]
  (.chk (.rng (.v 104) 4) (.call 14 [(true, [(.ite (.isk (.v 104) 0) (.v 45) (.v 58)), (.ite (.isk (.v 104) 0) (.v 46) (.v 59)), (.ite (.isk (.v 104) 0) (.v 47) (.v 60)), (.ite (.isk (.v 104) 0) (.v 48) (.v 61)), (.ite (.isk (.v 104) 0) (.v 49) (.v 62)), (.ite (.isk (.v 104) 0) (.v 50) (.v 63)), (.ite (.isk (.v 104) 0) (.v 51) (.v 64)), (.ite (.isk (.v 104) 0) (.v 52) (.v 65)), (.ite (.isk (.v 104) 0) (.v 53) (.v 66)), (.ite (.isk (.v 104) 0) (.v 54) (.v 67)), (.ite (.isk (.v 104) 0) (.v 55) (.v 68)), (.ite (.isk (.v 104) 1) (.v 45) (.v 69)), (.ite (.isk (.v 104) 1) (.v 46) (.v 70)), (.ite (.isk (.v 104) 1) (.v 47) (.v 71)), (.ite (.isk (.v 104) 1) (.v 48) (.v 72)), (.ite (.isk (.v 104) 1) (.v 49) (.v 73)), (.ite (.isk (.v 104) 1) (.v 50) (.v 74)), (.ite (.isk (.v 104) 1) (.v 51) (.v 75)), (.ite (.isk (.v 104) 1) (.v 52) (.v 76)), (.ite (.isk (.v 104) 1) (.v 53) (.v 77)), (.ite (.isk (.v 104) 1) (.v 54) (.v 78)), (.ite (.isk (.v 104) 1) (.v 55) (.v 79)), (.ite (.isk (.v 104) 2) (.v 45) (.v 80)), (.ite (.isk (.v 104) 2) (.v 46) (.v 81)), (.ite (.isk (.v 104) 2) (.v 47) (.v 82)), (.ite (.isk (.v 104) 2) (.v 48) (.v 83)), (.ite (.isk (.v 104) 2) (.v 49) (.v 84)), (.ite (.isk (.v 104) 2) (.v 50) (.v 85)), (.ite (.isk (.v 104) 2) (.v 51) (.v 86)), (.ite (.isk (.v 104) 2) (.v 52) (.v 87)), (.ite (.isk (.v 104) 2) (.v 53) (.v 88)), (.ite (.isk (.v 104) 2) (.v 54) (.v 89)), (.ite (.isk (.v 104) 2) (.v 55) (.v 90)), (.ite (.isk (.v 104) 3) (.v 45) (.v 91)), (.ite (.isk (.v 104) 3) (.v 46) (.v 92)), (.ite (.isk (.v 104) 3) (.v 47) (.v 93)), (.ite (.isk (.v 104) 3) (.v 48) (.v 94)), (.ite (.isk (.v 104) 3) (.v 49) (.v 95)), (.ite (.isk (.v 104) 3) (.v 50) (.v 96)), (.ite (.isk (.v 104) 3) (.v 51) (.v 97)), (.ite (.isk (.v 104) 3) (.v 52) (.v 98)), (.ite (.isk (.v 104) 3) (.v 53) (.v 99)), (.ite (.isk (.v 104) 3) (.v 54) (.v 100)), (.ite (.isk (.v 104) 3) (.v 55) (.v 101)), (.v 102)]), (false, [(.v 104)])] [(true, 45)]
  (.ret [(true, [(.v 105), (.v 106), (.v 107), (.v 108), (.v 109), (.v 110), (.v 111), (.v 112), (.v 113), (.v 114), (.v 115), (.v 116), (.v 117), (.v 118), (.v 119), (.v 120), (.v 121), (.v 122), (.v 123), (.v 124), (.v 125), (.v 126), (.v 127), (.v 128), (.v 129), (.v 130), (.v 131), (.v 132), (.v 133), (.v 134), (.v 135), (.v 136), (.v 137), (.v 138), (.v 139), (.v 140), (.v 141), (.v 142), (.v 143), (.v 144), (.v 145), (.v 146), (.v 147), (.v 148), (.v 149)]), (false, [(.v 104)])])))))))
theorem set_Put_c : compile envIrSet 3000 20 = .ok set_Put_ir := by kernel_rfl
theorem set_Put_p : paramShape Tryd.prog 20 = some [(true, 45), (true, 11), (false, 1)] := by kernel_rfl
theorem set_Put_k : Known gAll 20 [(true, 45), (true, 11), (false, 1)] set_Put_ir := ⟨envIrSet, 3000, rfl, rfl, set_Put_c, set_Put_p⟩
/-- atlas/atlasref13.Put -/
def atlasref13_Put_ir : IR :=
  (.loop [(.c (.i .i64 (-1))), (.c (.i .i64 3)), (.v 0), (.v 1), (.v 2), (.v 3), (.v 4), (.v 5), (.v 6), (.v 7), (.v 8), (.v 9), (.v 10), (.v 11), (.v 12), (.v 13), (.v 14), (.v 15), (.v 16), (.v 17), (.v 18), (.v 19), (.v 20), (.v 21), (.v 22), (.v 23), (.v 24), (.v 25), (.v 26), (.v 27), (.v 28), (.v 29), (.v 30), (.v 31), (.v 32), (.v 33), (.v 34), (.v 35), (.v 36), (.v 37), (.v 38), (.v 39), (.v 40), (.v 41), (.v 42), (.v 43)]
  (.lt (.bin .geq (.v 58) (.c (.i .i64 0))) (.ite (.v 103)
  (.chk (.rng (.v 58) 4) (.call 19 [(true, [(.v 45), (.v 46), (.v 47), (.v 48), (.v 49), (.v 50), (.v 51), (.v 52), (.v 53), (.v 54), (.v 55)]), (true, [(.ite (.isk (.v 58) 0) (.v 59) (.ite (.isk (.v 58) 1) (.v 70) (.ite (.isk (.v 58) 2) (.v 81) (.v 92)))), (.ite (.isk (.v 58) 0) (.v 60) (.ite (.isk (.v 58) 1) (.v 71) (.ite (.isk (.v 58) 2) (.v 82) (.v 93)))), (.ite (.isk (.v 58) 0) (.v 61) (.ite (.isk (.v 58) 1) (.v 72) (.ite (.isk (.v 58) 2) (.v 83) (.v 94)))), (.ite (.isk (.v 58) 0) (.v 62) (.ite (.isk (.v 58) 1) (.v 73) (.ite (.isk (.v 58) 2) (.v 84) (.v 95)))), (.ite (.isk (.v 58) 0) (.v 63) (.ite (.isk (.v 58) 1) (.v 74) (.ite (.isk (.v 58) 2) (.v 85) (.v 96)))), (.ite (.isk (.v 58) 0) (.v 64) (.ite (.isk (.v 58) 1) (.v 75) (.ite (.isk (.v 58) 2) (.v 86) (.v 97)))), (.ite (.isk (.v 58) 0) (.v 65) (.ite (.isk (.v 58) 1) (.v 76) (.ite (.isk (.v 58) 2) (.v 87) (.v 98)))), (.ite (.isk (.v 58) 0) (.v 66) (.ite (.isk (.v 58) 1) (.v 77) (.ite (.isk (.v 58) 2) (.v 88) (.v 99)))), (.ite (.isk (.v 58) 0) (.v 67) (.ite (.isk (.v 58) 1) (.v 78) (.ite (.isk (.v 58) 2) (.v 89) (.v 100)))), (.ite (.isk (.v 58) 0) (.v 68) (.ite (.isk (.v 58) 1) (.v 79) (.ite (.isk (.v 58) 2) (.v 90) (.v 101)))), (.ite (.isk (.v 58) 0) (.v 69) (.ite (.isk (.v 58) 1) (.v 80) (.ite (.isk (.v 58) 2) (.v 91) (.v 102))))])] [(false, 1)]
  (.ite (.v 104)
  (.chk (.rng (.v 58) 4) (.chk (.rng (.v 58) 4) (.lt (.un .not (.ite (.isk (.v 58) 0) (.ite (.isk (.v 58) 0) (.c (.b false)) (.v 59)) (.ite (.isk (.v 58) 1) (.ite (.isk (.v 58) 1) (.c (.b false)) (.v 70)) (.ite (.isk (.v 58) 2) (.ite (.isk (.v 58) 2) (.c (.b false)) (.v 81)) (.ite (.isk (.v 58) 3) (.c (.b false)) (.v 92)))))) (.ite (.v 105)
  (.lt (.bin .sub (.v 58) (.c (.i .i64 1))) (.cont 0 [(.v 58), (.v 106), (.ite (.isk (.v 58) 0) (.c (.b false)) (.v 59)), (.ite (.isk (.v 58) 0) (.c (.i .u64 0)) (.v 60)), (.ite (.isk (.v 58) 0) (.c (.b false)) (.v 61)), (.ite (.isk (.v 58) 0) (.c (.i .i64 0)) (.v 62)), (.ite (.isk (.v 58) 0) (.c (.i .u64 0)) (.v 63)), (.ite (.isk (.v 58) 0) (.c (.i .u64 0)) (.v 64)), (.ite (.isk (.v 58) 0) (.c (.b false)) (.v 65)), (.ite (.isk (.v 58) 0) (.c (.b false)) (.v 66)), (.ite (.isk (.v 58) 0) (.c (.b false)) (.v 67)), (.ite (.isk (.v 58) 0) (.c (.b false)) (.v 68)), (.ite (.isk (.v 58) 0) (.c (.b false)) (.v 69)), (.ite (.isk (.v 58) 1) (.c (.b false)) (.v 70)), (.ite (.isk (.v 58) 1) (.c (.i .u64 0)) (.v 71)), (.ite (.isk (.v 58) 1) (.c (.b false)) (.v 72)), (.ite (.isk (.v 58) 1) (.c (.i .i64 0)) (.v 73)), (.ite (.isk (.v 58) 1) (.c (.i .u64 0)) (.v 74)), (.ite (.isk (.v 58) 1) (.c (.i .u64 0)) (.v 75)), (.ite (.isk (.v 58) 1) (.c (.b false)) (.v 76)), (.ite (.isk (.v 58) 1) (.c (.b false)) (.v 77)), (.ite (.isk (.v 58) 1) (.c (.b false)) (.v 78)), (.ite (.isk (.v 58) 1) (.c (.b false)) (.v 79)), (.ite (.isk (.v 58) 1) (.c (.b false)) (.v 80)), (.ite (.isk (.v 58) 2) (.c (.b false)) (.v 81)), (.ite (.isk (.v 58) 2) (.c (.i .u64 0)) (.v 82)), (.ite (.isk (.v 58) 2) (.c (.b false)) (.v 83)), (.ite (.isk (.v 58) 2) (.c (.i .i64 0)) (.v 84)), (.ite (.isk (.v 58) 2) (.c (.i .u64 0)) (.v 85)), (.ite (.isk (.v 58) 2) (.c (.i .u64 0)) (.v 86)), (.ite (.isk (.v 58) 2) (.c (.b false)) (.v 87)), (.ite (.isk (.v 58) 2) (.c (.b false)) (.v 88)), (.ite (.isk (.v 58) 2) (.c (.b false)) (.v 89)), (.ite (.isk (.v 58) 2) (.c (.b false)) (.v 90)), (.ite (.isk (.v 58) 2) (.c (.b false)) (.v 91)), (.ite (.isk (.v 58) 3) (.c (.b false)) (.v 92)), (.ite (.isk (.v 58) 3) (.c (.i .u64 0)) (.v 93)), (.ite (.isk (.v 58) 3) (.c (.b false)) (.v 94)), (.ite (.isk (.v 58) 3) (.c (.i .i64 0)) (.v 95)), (.ite (.isk (.v 58) 3) (.c (.i .u64 0)) (.v 96)), (.ite (.isk (.v 58) 3) (.c (.i .u64 0)) (.v 97)), (.ite (.isk (.v 58) 3) (.c (.b false)) (.v 98)), (.ite (.isk (.v 58) 3) (.c (.b false)) (.v 99)), (.ite (.isk (.v 58) 3) (.c (.b false)) (.v 100)), (.ite (.isk (.v 58) 3) (.c (.b false)) (.v 101)), (.ite (.isk (.v 58) 3) (.c (.b false)) (.v 102))]))
  (.lt (.bin .sub (.v 58) (.c (.i .i64 1))) (.cont 0 [(.v 57), (.v 106), (.ite (.isk (.v 58) 0) (.c (.b false)) (.v 59)), (.ite (.isk (.v 58) 0) (.c (.i .u64 0)) (.v 60)), (.ite (.isk (.v 58) 0) (.c (.b false)) (.v 61)), (.ite (.isk (.v 58) 0) (.c (.i .i64 0)) (.v 62)), (.ite (.isk (.v 58) 0) (.c (.i .u64 0)) (.v 63)), (.ite (.isk (.v 58) 0) (.c (.i .u64 0)) (.v 64)), (.ite (.isk (.v 58) 0) (.c (.b false)) (.v 65)), (.ite (.isk (.v 58) 0) (.c (.b false)) (.v 66)), (.ite (.isk (.v 58) 0) (.c (.b false)) (.v 67)), (.ite (.isk (.v 58) 0) (.c (.b false)) (.v 68)), (.ite (.isk (.v 58) 0) (.c (.b false)) (.v 69)), (.ite (.isk (.v 58) 1) (.c (.b false)) (.v 70)), (.ite (.isk (.v 58) 1) (.c (.i .u64 0)) (.v 71)), (.ite (.isk (.v 58) 1) (.c (.b false)) (.v 72)), (.ite (.isk (.v 58) 1) (.c (.i .i64 0)) (.v 73)), (.ite (.isk (.v 58) 1) (.c (.i .u64 0)) (.v 74)), (.ite (.isk (.v 58) 1) (.c (.i .u64 0)) (.v 75)), (.ite (.isk (.v 58) 1) (.c (.b false)) (.v 76)), (.ite (.isk (.v 58) 1) (.c (.b false)) (.v 77)), (.ite (.isk (.v 58) 1) (.c (.b false)) (.v 78)), (.ite (.isk (.v 58) 1) (.c (.b false)) (.v 79)), (.ite (.isk (.v 58) 1) (.c (.b false)) (.v 80)), (.ite (.isk (.v 58) 2) (.c (.b false)) (.v 81)), (.ite (.isk (.v 58) 2) (.c (.i .u64 0)) (.v 82)), (.ite (.isk (.v 58) 2) (.c (.b false)) (.v 83)), (.ite (.isk (.v 58) 2) (.c (.i .i64 0)) (.v 84)), (.ite (.isk (.v 58) 2) (.c (.i .u64 0)) (.v 85)), (.ite (.isk (.v 58) 2) (.c (.i .u64 0)) (.v 86)), (.ite (.isk (.v 58) 2) (.c (.b false)) (.v 87)), (.ite (.isk (.v 58) 2) (.c (.b false)) (.v 88)), (.ite (.isk (.v 58) 2) (.c (.b false)) (.v 89)), (.ite (.isk (.v 58) 2) (.c (.b false)) (.v 90)), (.ite (.isk (.v 58) 2) (.c (.b false)) (.v 91)), (.ite (.isk (.v 58) 3) (.c (.b false)) (.v 92)), (.ite (.isk (.v 58) 3) (.c (.i .u64 0)) (.v 93)), (.ite (.isk (.v 58) 3) (.c (.b false)) (.v 94)), (.ite (.isk (.v 58) 3) (.c (.i .i64 0)) (.v 95)), (.ite (.isk (.v 58) 3) (.c (.i .u64 0)) (.v 96)), (.ite (.isk (.v 58) 3) (.c (.i .u64 0)) (.v 97)), (.ite (.isk (.v 58) 3) (.c (.b false)) (.v 98)), (.ite (.isk (.v 58) 3) (.c (.b false)) (.v 99)), (.ite (.isk (.v 58) 3) (.c (.b false)) (.v 100)), (.ite (.isk (.v 58) 3) (.c (.b false)) (.v 101)), (.ite (.isk (.v 58) 3) (.c (.b false)) (.v 102))]))))))
  (.chk (.rng (.v 58) 4) (.lt (.un .not (.ite (.isk (.v 58) 0) (.v 59) (.ite (.isk (.v 58) 1) (.v 70) (.ite (.isk (.v 58) 2) (.v 81) (.v 92))))) (.ite (.v 105)
  (.lt (.bin .sub (.v 58) (.c (.i .i64 1))) (.cont 0 [(.v 58), (.v 106), (.v 59), (.v 60), (.v 61), (.v 62), (.v 63), (.v 64), (.v 65), (.v 66), (.v 67), (.v 68), (.v 69), (.v 70), (.v 71), (.v 72), (.v 73), (.v 74), (.v 75), (.v 76), (.v 77), (.v 78), (.v 79), (.v 80), (.v 81), (.v 82), (.v 83), (.v 84), (.v 85), (.v 86), (.v 87), (.v 88), (.v 89), (.v 90), (.v 91), (.v 92), (.v 93), (.v 94), (.v 95), (.v 96), (.v 97), (.v 98), (.v 99), (.v 100), (.v 101), (.v 102)]))
  (.lt (.bin .sub (.v 58) (.c (.i .i64 1))) (.cont 0 [(.v 57), (.v 106), (.v 59), (.v 60), (.v 61), (.v 62), (.v 63), (.v 64), (.v 65), (.v 66), (.v 67), (.v 68), (.v 69), (.v 70), (.v 71), (.v 72), (.v 73), (.v 74), (.v 75), (.v 76), (.v 77), (.v 78), (.v 79), (.v 80), (.v 81), (.v 82), (.v 83), (.v 84), (.v 85), (.v 86), (.v 87), (.v 88), (.v 89), (.v 90), (.v 91), (.v 92), (.v 93), (.v 94), (.v 95), (.v 96), (.v 97), (.v 98), (.v 99), (.v 100), (.v 101), (.v 102)]))))))))
  (.lt (.bin .lss (.v 57) (.c (.i .i64 0))) (.ite (.v 104)
  (.call 24 [(false, [(.v 44)])] [(false, 1)]
  (.lt (.bin .geq (.v 56) (.c (.i .i64 0))) (.ite (.v 106)
  (.lt (.bin .leq (.v 56) (.c (.i .i64 3))) (.ite (.v 107)
  (.chk (.rng (.v 56) 4) (.call 15 [(true, [(.ite (.isk (.v 56) 0) (.v 45) (.v 59)), (.ite (.isk (.v 56) 0) (.v 46) (.v 60)), (.ite (.isk (.v 56) 0) (.v 47) (.v 61)), (.ite (.isk (.v 56) 0) (.v 48) (.v 62)), (.ite (.isk (.v 56) 0) (.v 49) (.v 63)), (.ite (.isk (.v 56) 0) (.v 50) (.v 64)), (.ite (.isk (.v 56) 0) (.v 51) (.v 65)), (.ite (.isk (.v 56) 0) (.v 52) (.v 66)), (.ite (.isk (.v 56) 0) (.v 53) (.v 67)), (.ite (.isk (.v 56) 0) (.v 54) (.v 68)), (.ite (.isk (.v 56) 0) (.v 55) (.v 69)), (.ite (.isk (.v 56) 1) (.v 45) (.v 70)), (.ite (.isk (.v 56) 1) (.v 46) (.v 71)), (.ite (.isk (.v 56) 1) (.v 47) (.v 72)), (.ite (.isk (.v 56) 1) (.v 48) (.v 73)), (.ite (.isk (.v 56) 1) (.v 49) (.v 74)), (.ite (.isk (.v 56) 1) (.v 50) (.v 75)), (.ite (.isk (.v 56) 1) (.v 51) (.v 76)), (.ite (.isk (.v 56) 1) (.v 52) (.v 77)), (.ite (.isk (.v 56) 1) (.v 53) (.v 78)), (.ite (.isk (.v 56) 1) (.v 54) (.v 79)), (.ite (.isk (.v 56) 1) (.v 55) (.v 80)), (.ite (.isk (.v 56) 2) (.v 45) (.v 81)), (.ite (.isk (.v 56) 2) (.v 46) (.v 82)), (.ite (.isk (.v 56) 2) (.v 47) (.v 83)), (.ite (.isk (.v 56) 2) (.v 48) (.v 84)), (.ite (.isk (.v 56) 2) (.v 49) (.v 85)), (.ite (.isk (.v 56) 2) (.v 50) (.v 86)), (.ite (.isk (.v 56) 2) (.v 51) (.v 87)), (.ite (.isk (.v 56) 2) (.v 52) (.v 88)), (.ite (.isk (.v 56) 2) (.v 53) (.v 89)), (.ite (.isk (.v 56) 2) (.v 54) (.v 90)), (.ite (.isk (.v 56) 2) (.v 55) (.v 91)), (.ite (.isk (.v 56) 3) (.v 45) (.v 92)), (.ite (.isk (.v 56) 3) (.v 46) (.v 93)), (.ite (.isk (.v 56) 3) (.v 47) (.v 94)), (.ite (.isk (.v 56) 3) (.v 48) (.v 95)), (.ite (.isk (.v 56) 3) (.v 49) (.v 96)), (.ite (.isk (.v 56) 3) (.v 50) (.v 97)), (.ite (.isk (.v 56) 3) (.v 51) (.v 98)), (.ite (.isk (.v 56) 3) (.v 52) (.v 99)), (.ite (.isk (.v 56) 3) (.v 53) (.v 100)), (.ite (.isk (.v 56) 3) (.v 54) (.v 101)), (.ite (.isk (.v 56) 3) (.v 55) (.v 102)), (.v 44)]), (false, [(.v 56)])] [(true, 45)]
  (.ret [(true, [(.v 108), (.v 109), (.v 110), (.v 111), (.v 112), (.v 113), (.v 114), (.v 115), (.v 116), (.v 117), (.v 118), (.v 119), (.v 120), (.v 121), (.v 122), (.v 123), (.v 124), (.v 125), (.v 126), (.v 127), (.v 128), (.v 129), (.v 130), (.v 131), (.v 132), (.v 133), (.v 134), (.v 135), (.v 136), (.v 137), (.v 138), (.v 139), (.v 140), (.v 141), (.v 142), (.v 143), (.v 144), (.v 145), (.v 146), (.v 147), (.v 148), (.v 149), (.v 150), (.v 151), (.v 152)]), (false, [(.v 56)])])))
  (.chk (.rng (.v 105) 4) (.call 15 [(true, [(.ite (.isk (.v 105) 0) (.v 45) (.v 59)), (.ite (.isk (.v 105) 0) (.v 46) (.v 60)), (.ite (.isk (.v 105) 0) (.v 47) (.v 61)), (.ite (.isk (.v 105) 0) (.v 48) (.v 62)), (.ite (.isk (.v 105) 0) (.v 49) (.v 63)), (.ite (.isk (.v 105) 0) (.v 50) (.v 64)), (.ite (.isk (.v 105) 0) (.v 51) (.v 65)), (.ite (.isk (.v 105) 0) (.v 52) (.v 66)), (.ite (.isk (.v 105) 0) (.v 53) (.v 67)), (.ite (.isk (.v 105) 0) (.v 54) (.v 68)), (.ite (.isk (.v 105) 0) (.v 55) (.v 69)), (.ite (.isk (.v 105) 1) (.v 45) (.v 70)), (.ite (.isk (.v 105) 1) (.v 46) (.v 71)), (.ite (.isk (.v 105) 1) (.v 47) (.v 72)), (.ite (.isk (.v 105) 1) (.v 48) (.v 73)), (.ite (.isk (.v 105) 1) (.v 49) (.v 74)), (.ite (.isk (.v 105) 1) (.v 50) (.v 75)), (.ite (.isk (.v 105) 1) (.v 51) (.v 76)), (.ite (.isk (.v 105) 1) (.v 52) (.v 77)), (.ite (.isk (.v 105) 1) (.v 53) (.v 78)), (.ite (.isk (.v 105) 1) (.v 54) (.v 79)), (.ite (.isk (.v 105) 1) (.v 55) (.v 80)), (.ite (.isk (.v 105) 2) (.v 45) (.v 81)), (.ite (.isk (.v 105) 2) (.v 46) (.v 82)), (.ite (.isk (.v 105) 2) (.v 47) (.v 83)), (.ite (.isk (.v 105) 2) (.v 48) (.v 84)), (.ite (.isk (.v 105) 2) (.v 49) (.v 85)), (.ite (.isk (.v 105) 2) (.v 50) (.v 86)), (.ite (.isk (.v 105) 2) (.v 51) (.v 87)), (.ite (.isk (.v 105) 2) (.v 52) (.v 88)), (.ite (.isk (.v 105) 2) (.v 53) (.v 89)), (.ite (.isk (.v 105) 2) (.v 54) (.v 90)), (.ite (.isk (.v 105) 2) (.v 55) (.v 91)), (.ite (.isk (.v 105) 3) (.v 45) (.v 92)), (.ite (.isk (.v 105) 3) (.v 46) (.v 93)), (.ite (.isk (.v 105) 3) (.v 47) (.v 94)), (.ite (.isk (.v 105) 3) (.v 48) (.v 95)), (.ite (.isk (.v 105) 3) (.v 49) (.v 96)), (.ite (.isk (.v 105) 3) (.v 50) (.v 97)), (.ite (.isk (.v 105) 3) (.v 51) (.v 98)), (.ite (.isk (.v 105) 3) (.v 52) (.v 99)), (.ite (.isk (.v 105) 3) (.v 53) (.v 100)), (.ite (.isk (.v 105) 3) (.v 54) (.v 101)), (.ite (.isk (.v 105) 3) (.v 55) (.v 102)), (.v 44)]), (false, [(.v 105)])] [(true, 45)]
  (.ret [(true, [(.v 108), (.v 109), (.v 110), (.v 111), (.v 112), (.v 113), (.v 114), (.v 115), (.v 116), (.v 117), (.v 118), (.v 119), (.v 120), (.v 121), (.v 122), (.v 123), (.v 124), (.v 125), (.v 126), (.v 127), (.v 128), (.v 129), (.v 130), (.v 131), (.v 132), (.v 133), (.v 134), (.v 135), (.v 136), (.v 137), (.v 138), (.v 139), (.v 140), (.v 141), (.v 142), (.v 143), (.v 144), (.v 145), (.v 146), (.v 147), (.v 148), (.v 149), (.v 150), (.v 151), (.v 152)]), (false, [(.v 105)])])))))
  (.chk (.rng (.v 105) 4) (.call 15 [(true, [(.ite (.isk (.v 105) 0) (.v 45) (.v 59)), (.ite (.isk (.v 105) 0) (.v 46) (.v 60)), (.ite (.isk (.v 105) 0) (.v 47) (.v 61)), (.ite (.isk (.v 105) 0) (.v 48) (.v 62)), (.ite (.isk (.v 105) 0) (.v 49) (.v 63)), (.ite (.isk (.v 105) 0) (.v 50) (.v 64)), (.ite (.isk (.v 105) 0) (.v 51) (.v 65)), (.ite (.isk (.v 105) 0) (.v 52) (.v 66)), (.ite (.isk (.v 105) 0) (.v 53) (.v 67)), (.ite (.isk (.v 105) 0) (.v 54) (.v 68)), (.ite (.isk (.v 105) 0) (.v 55) (.v 69)), (.ite (.isk (.v 105) 1) (.v 45) (.v 70)), (.ite (.isk (.v 105) 1) (.v 46) (.v 71)), (.ite (.isk (.v 105) 1) (.v 47) (.v 72)), (.ite (.isk (.v 105) 1) (.v 48) (.v 73)), (.ite (.isk (.v 105) 1) (.v 49) (.v 74)), (.ite (.isk (.v 105) 1) (.v 50) (.v 75)), (.ite (.isk (.v 105) 1) (.v 51) (.v 76)), (.ite (.isk (.v 105) 1) (.v 52) (.v 77)), (.ite (.isk (.v 105) 1) (.v 53) (.v 78)), (.ite (.isk (.v 105) 1) (.v 54) (.v 79)), (.ite (.isk (.v 105) 1) (.v 55) (.v 80)), (.ite (.isk (.v 105) 2) (.v 45) (.v 81)), (.ite (.isk (.v 105) 2) (.v 46) (.v 82)), (.ite (.isk (.v 105) 2) (.v 47) (.v 83)), (.ite (.isk (.v 105) 2) (.v 48) (.v 84)), (.ite (.isk (.v 105) 2) (.v 49) (.v 85)), (.ite (.isk (.v 105) 2) (.v 50) (.v 86)), (.ite (.isk (.v 105) 2) (.v 51) (.v 87)), (.ite (.isk (.v 105) 2) (.v 52) (.v 88)), (.ite (.isk (.v 105) 2) (.v 53) (.v 89)), (.ite (.isk (.v 105) 2) (.v 54) (.v 90)), (.ite (.isk (.v 105) 2) (.v 55) (.v 91)), (.ite (.isk (.v 105) 3) (.v 45) (.v 92)), (.ite (.isk (.v 105) 3) (.v 46) (.v 93)), (.ite (.isk (.v 105) 3) (.v 47) (.v 94)), (.ite (.isk (.v 105) 3) (.v 48) (.v 95)), (.ite (.isk (.v 105) 3) (.v 49) (.v 96)), (.ite (.isk (.v 105) 3) (.v 50) (.v 97)), (.ite (.isk (.v 105) 3) (.v 51) (.v 98)), (.ite (.isk (.v 105) 3) (.v 52) (.v 99)), (.ite (.isk (.v 105) 3) (.v 53) (.v 100)), (.ite (.isk (.v 105) 3) (.v 54) (.v 101)), (.ite (.isk (.v 105) 3) (.v 55) (.v 102)), (.v 44)]), (false, [(.v 105)])] [(true, 45)]
  (.ret [(true, [(.v 107), (.v 108), (.v 109), (.v 110), (.v 111), (.v 112), (.v 113), (.v 114), (.v 115), (.v 116), (.v 117), (.v 118), (.v 119), (.v 120), (.v 121), (.v 122), (.v 123), (.v 124), (.v 125), (.v 126), (.v 127), (.v 128), (.v 129), (.v 130), (.v 131), (.v 132), (.v 133), (.v 134), (.v 135), (.v 136), (.v 137), (.v 138), (.v 139), (.v 140), (.v 141), (.v 142), (.v 143), (.v 144), (.v 145), (.v 146), (.v 147), (.v 148), (.v 149), (.v 150), (.v 151)]), (false, [(.v 105)])]))))))
  (.lt (.bin .geq (.v 56) (.c (.i .i64 0))) (.ite (.v 105)
  (.lt (.bin .leq (.v 56) (.c (.i .i64 3))) (.ite (.v 106)
  (.chk (.rng (.v 56) 4) (.call 15 [(true, [(.ite (.isk (.v 56) 0) (.v 45) (.v 59)), (.ite (.isk (.v 56) 0) (.v 46) (.v 60)), (.ite (.isk (.v 56) 0) (.v 47) (.v 61)), (.ite (.isk (.v 56) 0) (.v 48) (.v 62)), (.ite (.isk (.v 56) 0) (.v 49) (.v 63)), (.ite (.isk (.v 56) 0) (.v 50) (.v 64)), (.ite (.isk (.v 56) 0) (.v 51) (.v 65)), (.ite (.isk (.v 56) 0) (.v 52) (.v 66)), (.ite (.isk (.v 56) 0) (.v 53) (.v 67)), (.ite (.isk (.v 56) 0) (.v 54) (.v 68)), (.ite (.isk (.v 56) 0) (.v 55) (.v 69)), (.ite (.isk (.v 56) 1) (.v 45) (.v 70)), (.ite (.isk (.v 56) 1) (.v 46) (.v 71)), (.ite (.isk (.v 56) 1) (.v 47) (.v 72)), (.ite (.isk (.v 56) 1) (.v 48) (.v 73)), (.ite (.isk (.v 56) 1) (.v 49) (.v 74)), (.ite (.isk (.v 56) 1) (.v 50) (.v 75)), (.ite (.isk (.v 56) 1) (.v 51) (.v 76)), (.ite (.isk (.v 56) 1) (.v 52) (.v 77)), (.ite (.isk (.v 56) 1) (.v 53) (.v 78)), (.ite (.isk (.v 56) 1) (.v 54) (.v 79)), (.ite (.isk (.v 56) 1) (.v 55) (.v 80)), (.ite (.isk (.v 56) 2) (.v 45) (.v 81)), (.ite (.isk (.v 56) 2) (.v 46) (.v 82)), (.ite (.isk (.v 56) 2) (.v 47) (.v 83)), (.ite (.isk (.v 56) 2) (.v 48) (.v 84)), (.ite (.isk (.v 56) 2) (.v 49) (.v 85)), (.ite (.isk (.v 56) 2) (.v 50) (.v 86)), (.ite (.isk (.v 56) 2) (.v 51) (.v 87)), (.ite (.isk (.v 56) 2) (.v 52) (.v 88)), (.ite (.isk (.v 56) 2) (.v 53) (.v 89)), (.ite (.isk (.v 56) 2) (.v 54) (.v 90)), (.ite (.isk (.v 56) 2) (.v 55) (.v 91)), (.ite (.isk (.v 56) 3) (.v 45) (.v 92)), (.ite (.isk (.v 56) 3) (.v 46) (.v 93)), (.ite (.isk (.v 56) 3) (.v 47) (.v 94)), (.ite (.isk (.v 56) 3) (.v 48) (.v 95)), (.ite (.isk (.v 56) 3) (.v 49) (.v 96)), (.ite (.isk (.v 56) 3) (.v 50) (.v 97)), (.ite (.isk (.v 56) 3) (.v 51) (.v 98)), (.ite (.isk (.v 56) 3) (.v 52) (.v 99)), (.ite (.isk (.v 56) 3) (.v 53) (.v 100)), (.ite (.isk (.v 56) 3) (.v 54) (.v 101)), (.ite (.isk (.v 56) 3) (.v 55) (.v 102)), (.v 44)]), (false, [(.v 56)])] [(true, 45)]
  (.ret [(true, [(.v 107), (.v 108), (.v 109), (.v 110), (.v 111), (.v 112), (.v 113), (.v 114), (.v 115), (.v 116), (.v 117), (.v 118), (.v 119), (.v 120), (.v 121), (.v 122), (.v 123), (.v 124), (.v 125), (.v 126), (.v 127), (.v 128), (.v 129), (.v 130), (.v 131), (.v 132), (.v 133), (.v 134), (.v 135), (.v 136), (.v 137), (.v 138), (.v 139), (.v 140), (.v 141), (.v 142), (.v 143), (.v 144), (.v 145), (.v 146), (.v 147), (.v 148), (.v 149), (.v 150), (.v 151)]), (false, [(.v 56)])])))
  (.chk (.rng (.v 57) 4) (.call 15 [(true, [(.ite (.isk (.v 57) 0) (.v 45) (.v 59)), (.ite (.isk (.v 57) 0) (.v 46) (.v 60)), (.ite (.isk (.v 57) 0) (.v 47) (.v 61)), (.ite (.isk (.v 57) 0) (.v 48) (.v 62)), (.ite (.isk (.v 57) 0) (.v 49) (.v 63)), (.ite (.isk (.v 57) 0) (.v 50) (.v 64)), (.ite (.isk (.v 57) 0) (.v 51) (.v 65)), (.ite (.isk (.v 57) 0) (.v 52) (.v 66)), (.ite (.isk (.v 57) 0) (.v 53) (.v 67)), (.ite (.isk (.v 57) 0) (.v 54) (.v 68)), (.ite (.isk (.v 57) 0) (.v 55) (.v 69)), (.ite (.isk (.v 57) 1) (.v 45) (.v 70)), (.ite (.isk (.v 57) 1) (.v 46) (.v 71)), (.ite (.isk (.v 57) 1) (.v 47) (.v 72)), (.ite (.isk (.v 57) 1) (.v 48) (.v 73)), (.ite (.isk (.v 57) 1) (.v 49) (.v 74)), (.ite (.isk (.v 57) 1) (.v 50) (.v 75)), (.ite (.isk (.v 57) 1) (.v 51) (.v 76)), (.ite (.isk (.v 57) 1) (.v 52) (.v 77)), (.ite (.isk (.v 57) 1) (.v 53) (.v 78)), (.ite (.isk (.v 57) 1) (.v 54) (.v 79)), (.ite (.isk (.v 57) 1) (.v 55) (.v 80)), (.ite (.isk (.v 57) 2) (.v 45) (.v 81)), (.ite (.isk (.v 57) 2) (.v 46) (.v 82)), (.ite (.isk (.v 57) 2) (.v 47) (.v 83)), (.ite (.isk (.v 57) 2) (.v 48) (.v 84)), (.ite (.isk (.v 57) 2) (.v 49) (.v 85)), (.ite (.isk (.v 57) 2) (.v 50) (.v 86)), (.ite (.isk (.v 57) 2) (.v 51) (.v 87)), (.ite (.isk (.v 57) 2) (.v 52) (.v 88)), (.ite (.isk (.v 57) 2) (.v 53) (.v 89)), (.ite (.isk (.v 57) 2) (.v 54) (.v 90)), (.ite (.isk (.v 57) 2) (.v 55) (.v 91)), (.ite (.isk (.v 57) 3) (.v 45) (.v 92)), (.ite (.isk (.v 57) 3) (.v 46) (.v 93)), (.ite (.isk (.v 57) 3) (.v 47) (.v 94)), (.ite (.isk (.v 57) 3) (.v 48) (.v 95)), (.ite (.isk (.v 57) 3) (.v 49) (.v 96)), (.ite (.isk (.v 57) 3) (.v 50) (.v 97)), (.ite (.isk (.v 57) 3) (.v 51) (.v 98)), (.ite (.isk (.v 57) 3) (.v 52) (.v 99)), (.ite (.isk (.v 57) 3) (.v 53) (.v 100)), (.ite (.isk (.v 57) 3) (.v 54) (.v 101)), (.ite (.isk (.v 57) 3) (.v 55) (.v 102)), (.v 44)]), (false, [(.v 57)])] [(true, 45)]
  (.ret [(true, [(.v 107), (.v 108), (.v 109), (.v 110), (.v 111), (.v 112), (.v 113), (.v 114), (.v 115), (.v 116), (.v 117), (.v 118), (.v 119), (.v 120), (.v 121), (.v 122), (.v 123), (.v 124), (.v 125), (.v 126), (.v 127), (.v 128), (.v 129), (.v 130), (.v 131), (.v 132), (.v 133), (.v 134), (.v 135), (.v 136), (.v 137), (.v 138), (.v 139), (.v 140), (.v 141), (.v 142), (.v 143), (.v 144), (.v 145), (.v 146), (.v 147), (.v 148), (.v 149), (.v 150), (.v 151)]), (false, [(.v 57)])])))))
  (.chk (.rng (.v 57) 4) (.call 15 [(true, [(.ite (.isk (.v 57) 0) (.v 45) (.v 59)), (.ite (.isk (.v 57) 0) (.v 46) (.v 60)), (.ite (.isk (.v 57) 0) (.v 47) (.v 61)), (.ite (.isk (.v 57) 0) (.v 48) (.v 62)), (.ite (.isk (.v 57) 0) (.v 49) (.v 63)), (.ite (.isk (.v 57) 0) (.v 50) (.v 64)), (.ite (.isk (.v 57) 0) (.v 51) (.v 65)), (.ite (.isk (.v 57) 0) (.v 52) (.v 66)), (.ite (.isk (.v 57) 0) (.v 53) (.v 67)), (.ite (.isk (.v 57) 0) (.v 54) (.v 68)), (.ite (.isk (.v 57) 0) (.v 55) (.v 69)), (.ite (.isk (.v 57) 1) (.v 45) (.v 70)), (.ite (.isk (.v 57) 1) (.v 46) (.v 71)), (.ite (.isk (.v 57) 1) (.v 47) (.v 72)), (.ite (.isk (.v 57) 1) (.v 48) (.v 73)), (.ite (.isk (.v 57) 1) (.v 49) (.v 74)), (.ite (.isk (.v 57) 1) (.v 50) (.v 75)), (.ite (.isk (.v 57) 1) (.v 51) (.v 76)), (.ite (.isk (.v 57) 1) (.v 52) (.v 77)), (.ite (.isk (.v 57) 1) (.v 53) (.v 78)), (.ite (.isk (.v 57) 1) (.v 54) (.v 79)), (.ite (.isk (.v 57) 1) (.v 55) (.v 80)), (.ite (.isk (.v 57) 2) (.v 45) (.v 81)), (.ite (.isk (.v 57) 2) (.v 46) (.v 82)), (.ite (.isk (.v 57) 2) (.v 47) (.v 83)), (.ite (.isk (.v 57) 2) (.v 48) (.v 84)), (.ite (.isk (.v 57) 2) (.v 49) (.v 85)), (.ite (.isk (.v 57) 2) (.v 50) (.v 86)), (.ite (.isk (.v 57) 2) (.v 51) (.v 87)), (.ite (.isk (.v 57) 2) (.v 52) (.v 88)), (.ite (.isk (.v 57) 2) (.v 53) (.v 89)), (.ite (.isk (.v 57) 2) (.v 54) (.v 90)), (.ite (.isk (.v 57) 2) (.v 55) (.v 91)), (.ite (.isk (.v 57) 3) (.v 45) (.v 92)), (.ite (.isk (.v 57) 3) (.v 46) (.v 93)), (.ite (.isk (.v 57) 3) (.v 47) (.v 94)), (.ite (.isk (.v 57) 3) (.v 48) (.v 95)), (.ite (.isk (.v 57) 3) (.v 49) (.v 96)), (.ite (.isk (.v 57) 3) (.v 50) (.v 97)), (.ite (.isk (.v 57) 3) (.v 51) (.v 98)), (.ite (.isk (.v 57) 3) (.v 52) (.v 99)), (.ite (.isk (.v 57) 3) (.v 53) (.v 100)), (.ite (.isk (.v 57) 3) (.v 54) (.v 101)), (.ite (.isk (.v 57) 3) (.v 55) (.v 102)), (.v 44)]), (false, [(.v 57)])] [(true, 45)]
  (.ret [(true, [(.v 106), (.v 107), (.v 108), (.v 109), (.v 110), (.v 111), (.v 112), (.v 113), (.v 114), (.v 115), (.v 116), (.v 117), (.v 118), (.v 119), (.v 120), (.v 121), (.v 122), (.v 123), (.v 124), (.v 125), (.v 126), (.v 127), (.v 128), (.v 129), (.v 130), (.v 131), (.v 132), (.v 133), (.v 134), (.v 135), (.v 136), (.v 137), (.v 138), (.v 139), (.v 140), (.v 141), (.v 142), (.v 143), (.v 144), (.v 145), (.v 146), (.v 147), (.v 148), (.v 149), (.v 150)]), (false, [(.v 57)])]))))))))))
theorem atlasref13_Put_c : compile envIrSet 3000 21 = .ok atlasref13_Put_ir := by kernel_rfl
theorem atlasref13_Put_p : paramShape Tryd.prog 21 = some [(true, 45), (true, 11), (false, 1)] := by kernel_rfl
theorem atlasref13_Put_k : Known gAll 21 [(true, 45), (true, 11), (false, 1)] atlasref13_Put_ir := ⟨envIrSet, 3000, rfl, rfl, atlasref13_Put_c, atlasref13_Put_p⟩
/-- atlas/atlasref13.Unlike -/
def atlasref13_Unlike_ir : IR :=
  (.loop [(.c (.b false)), (.c (.i .i64 0))]
  (.lt (.bin .lss (.v 46) (.c (.i .i64 4))) (.ite (.v 47)
  (.loop [(.v 45), (.c (.i .i64 0))]
  (.lt (.bin .lss (.v 49) (.v 46)) (.ite (.v 50)
  (.chk (.rng (.v 46) 4) (.chk (.rng (.v 49) 4) (.call 19 [(true, [(.ite (.isk (.v 46) 0) (.v 0) (.ite (.isk (.v 46) 1) (.v 11) (.ite (.isk (.v 46) 2) (.v 22) (.v 33)))), (.ite (.isk (.v 46) 0) (.v 1) (.ite (.isk (.v 46) 1) (.v 12) (.ite (.isk (.v 46) 2) (.v 23) (.v 34)))), (.ite (.isk (.v 46) 0) (.v 2) (.ite (.isk (.v 46) 1) (.v 13) (.ite (.isk (.v 46) 2) (.v 24) (.v 35)))), (.ite (.isk (.v 46) 0) (.v 3) (.ite (.isk (.v 46) 1) (.v 14) (.ite (.isk (.v 46) 2) (.v 25) (.v 36)))), (.ite (.isk (.v 46) 0) (.v 4) (.ite (.isk (.v 46) 1) (.v 15) (.ite (.isk (.v 46) 2) (.v 26) (.v 37)))), (.ite (.isk (.v 46) 0) (.v 5) (.ite (.isk (.v 46) 1) (.v 16) (.ite (.isk (.v 46) 2) (.v 27) (.v 38)))), (.ite (.isk (.v 46) 0) (.v 6) (.ite (.isk (.v 46) 1) (.v 17) (.ite (.isk (.v 46) 2) (.v 28) (.v 39)))), (.ite (.isk (.v 46) 0) (.v 7) (.ite (.isk (.v 46) 1) (.v 18) (.ite (.isk (.v 46) 2) (.v 29) (.v 40)))), (.ite (.isk (.v 46) 0) (.v 8) (.ite (.isk (.v 46) 1) (.v 19) (.ite (.isk (.v 46) 2) (.v 30) (.v 41)))), (.ite (.isk (.v 46) 0) (.v 9) (.ite (.isk (.v 46) 1) (.v 20) (.ite (.isk (.v 46) 2) (.v 31) (.v 42)))), (.ite (.isk (.v 46) 0) (.v 10) (.ite (.isk (.v 46) 1) (.v 21) (.ite (.isk (.v 46) 2) (.v 32) (.v 43))))]), (true, [(.ite (.isk (.v 49) 0) (.v 0) (.ite (.isk (.v 49) 1) (.v 11) (.ite (.isk (.v 49) 2) (.v 22) (.v 33)))), (.ite (.isk (.v 49) 0) (.v 1) (.ite (.isk (.v 49) 1) (.v 12) (.ite (.isk (.v 49) 2) (.v 23) (.v 34)))), (.ite (.isk (.v 49) 0) (.v 2) (.ite (.isk (.v 49) 1) (.v 13) (.ite (.isk (.v 49) 2) (.v 24) (.v 35)))), (.ite (.isk (.v 49) 0) (.v 3) (.ite (.isk (.v 49) 1) (.v 14) (.ite (.isk (.v 49) 2) (.v 25) (.v 36)))), (.ite (.isk (.v 49) 0) (.v 4) (.ite (.isk (.v 49) 1) (.v 15) (.ite (.isk (.v 49) 2) (.v 26) (.v 37)))), (.ite (.isk (.v 49) 0) (.v 5) (.ite (.isk (.v 49) 1) (.v 16) (.ite (.isk (.v 49) 2) (.v 27) (.v 38)))), (.ite (.isk (.v 49) 0) (.v 6) (.ite (.isk (.v 49) 1) (.v 17) (.ite (.isk (.v 49) 2) (.v 28) (.v 39)))), (.ite (.isk (.v 49) 0) (.v 7) (.ite (.isk (.v 49) 1) (.v 18) (.ite (.isk (.v 49) 2) (.v 29) (.v 40)))), (.ite (.isk (.v 49) 0) (.v 8) (.ite (.isk (.v 49) 1) (.v 19) (.ite (.isk (.v 49) 2) (.v 30) (.v 41)))), (.ite (.isk (.v 49) 0) (.v 9) (.ite (.isk (.v 49) 1) (.v 20) (.ite (.isk (.v 49) 2) (.v 31) (.v 42)))), (.ite (.isk (.v 49) 0) (.v 10) (.ite (.isk (.v 49) 1) (.v 21) (.ite (.isk (.v 49) 2) (.v 32) (.v 43))))])] [(false, 1)]
  (.ite (.v 51)
  (.ret [(false, [(.c (.b false))])])
  (.lt (.bin .add (.v 49) (.c (.i .i64 1))) (.cont 1 [(.v 48), (.v 52)]))))))
  (.lt (.bin .add (.v 46) (.c (.i .i64 1))) (.cont 0 [(.v 48), (.v 51)])))))
  (.ret [(false, [(.c (.b true))])]))))
theorem atlasref13_Unlike_c : compile envIrSet 3000 22 = .ok atlasref13_Unlike_ir := by kernel_rfl
theorem atlasref13_Unlike_p : paramShape Tryd.prog 22 = some [(true, 45)] := by kernel_rfl
theorem atlasref13_Unlike_k : Known gAll 22 [(true, 45)] atlasref13_Unlike_ir := ⟨envIrSet, 3000, rfl, rfl, atlasref13_Unlike_c, atlasref13_Unlike_p⟩
/-- atlas/atlasref05.Of -/
def atlasref05_Of_ir : IR :=
  (.lt (.bin .rem (.v 0) (.c (.i .u64 134217728))) (.lt (.bin .mul (.v 1) (.c (.i .u64 4096))) (.call 37 [(false, [(.v 2)]), (false, [(.c (.i .i64 39))])] [(false, 1)]
  (.ret [(false, [(.v 3)])]))))
theorem atlasref05_Of_c : compile envIrSet 3000 23 = .ok atlasref05_Of_ir := by kernel_rfl
theorem atlasref05_Of_p : paramShape Tryd.prog 23 = some [(false, 1)] := by kernel_rfl
theorem atlasref05_Of_k : Known gAll 23 [(false, 1)] atlasref05_Of_ir := ⟨envIrSet, 3000, rfl, rfl, atlasref05_Of_c, atlasref05_Of_p⟩
/-- atlas/atlasref11.Victim -/
def atlasref11_Victim_ir : IR :=
  (.lt (.bin .rem (.v 0) (.c (.i .u8 2))) (.lt (.bin .eql (.v 1) (.c (.i .u8 0))) (.ite (.v 2)
  (.lt (.bin .quo (.v 0) (.c (.i .u8 2))) (.lt (.bin .rem (.v 3) (.c (.i .u8 2))) (.lt (.cv .i64 (.v 4)) (.ret [(false, [(.v 5)])]))))
  (.lt (.bin .quo (.v 0) (.c (.i .u8 4))) (.lt (.cv .i64 (.v 3)) (.lt (.bin .add (.c (.i .i64 2)) (.v 4)) (.ret [(false, [(.v 5)])])))))))
theorem atlasref11_Victim_c : compile envIrSet 3000 24 = .ok atlasref11_Victim_ir := by kernel_rfl
theorem atlasref11_Victim_p : paramShape Tryd.prog 24 = some [(false, 1)] := by kernel_rfl
theorem atlasref11_Victim_k : Known gAll 24 [(false, 1)] atlasref11_Victim_ir := ⟨envIrSet, 3000, rfl, rfl, atlasref11_Victim_c, atlasref11_Victim_p⟩
/-- atlas/atlasref12.Matches -/
def atlasref12_Matches_ir : IR :=
  (.call 38 [(true, [(.v 0), (.v 1), (.v 2), (.v 3), (.v 4), (.v 5), (.v 6), (.v 7), (.v 8), (.v 9), (.v 10)]), (false, [(.v 12)])] [(false, 1)]
  (.ite (.v 13)
  (.ite (.v 2)
  (.ret [(false, [(.c (.b true))])])
  (.lt (.bin .eql (.v 1) (.v 11)) (.ret [(false, [(.v 14)])])))
  (.ret [(false, [(.c (.b false))])])))
theorem atlasref12_Matches_c : compile envIrSet 3000 25 = .ok atlasref12_Matches_ir := by kernel_rfl
theorem atlasref12_Matches_p : paramShape Tryd.prog 25 = some [(true, 11), (false, 1), (false, 1)] := by kernel_rfl
theorem atlasref12_Matches_k : Known gAll 25 [(true, 11), (false, 1), (false, 1)] atlasref12_Matches_ir := ⟨envIrSet, 3000, rfl, rfl, atlasref12_Matches_c, atlasref12_Matches_p⟩
/-- atlas/atlaslaw13.one -/
def atlaslaw13_one_ir : IR :=
  (.ret [(true, [(.c (.b true)), (.v 1), (.c (.b false)), (.c (.i .i64 0)), (.v 0), (.c (.i .u64 0)), (.c (.b false)), (.c (.b false)), (.c (.b false)), (.c (.b false)), (.c (.b false))])])
theorem atlaslaw13_one_c : compile envIrSet 3000 26 = .ok atlaslaw13_one_ir := by kernel_rfl
theorem atlaslaw13_one_p : paramShape Tryd.prog 26 = some [(false, 1), (false, 1)] := by kernel_rfl
theorem atlaslaw13_one_k : Known gAll 26 [(false, 1), (false, 1)] atlaslaw13_one_ir := ⟨envIrSet, 3000, rfl, rfl, atlaslaw13_one_c, atlaslaw13_one_p⟩
/-- atlas/plru.Is -/
def plru_Is_ir : IR :=
  (.lt (.bin .lss (.v 0) (.c (.i .u8 8))) (.ret [(false, [(.v 1)])]))
theorem plru_Is_c : compile envIrSet 3000 27 = .ok plru_Is_ir := by kernel_rfl
theorem plru_Is_p : paramShape Tryd.prog 27 = some [(false, 1)] := by kernel_rfl
theorem plru_Is_k : Known gAll 27 [(false, 1)] plru_Is_ir := ⟨envIrSet, 3000, rfl, rfl, plru_Is_c, plru_Is_p⟩
/-- atlas/entry.May -/
def entry_May_ir : IR :=
  (.lt (.un .not (.v 0)) (.ite (.v 11)
  (.lt (.ite (.eqt true (.v 0) (.c (.b false))) (.ite (.eqt false (.v 1) (.c (.i .u64 0))) (.ite (.eqt true (.v 2) (.c (.b false))) (.ite (.eqt false (.v 3) (.c (.i .i64 0))) (.ite (.eqt false (.v 4) (.c (.i .u64 0))) (.ite (.eqt false (.v 5) (.c (.i .u64 0))) (.ite (.eqt true (.v 6) (.c (.b false))) (.ite (.eqt true (.v 7) (.c (.b false))) (.ite (.eqt true (.v 8) (.c (.b false))) (.ite (.eqt true (.v 9) (.c (.b false))) (.ite (.eqt true (.v 10) (.c (.b false))) (.c (.b true)) (.c (.b false))) (.c (.b false))) (.c (.b false))) (.c (.b false))) (.c (.b false))) (.c (.b false))) (.c (.b false))) (.c (.b false))) (.c (.b false))) (.c (.b false))) (.c (.b false))) (.ret [(false, [(.v 12)])]))
  (.lt (.bin .lss (.v 3) (.c (.i .i64 0))) (.ite (.v 12)
  (.lt (.ite (.eqt true (.v 0) (.c (.b false))) (.ite (.eqt false (.v 1) (.c (.i .u64 0))) (.ite (.eqt true (.v 2) (.c (.b false))) (.ite (.eqt false (.v 3) (.c (.i .i64 0))) (.ite (.eqt false (.v 4) (.c (.i .u64 0))) (.ite (.eqt false (.v 5) (.c (.i .u64 0))) (.ite (.eqt true (.v 6) (.c (.b false))) (.ite (.eqt true (.v 7) (.c (.b false))) (.ite (.eqt true (.v 8) (.c (.b false))) (.ite (.eqt true (.v 9) (.c (.b false))) (.ite (.eqt true (.v 10) (.c (.b false))) (.c (.b true)) (.c (.b false))) (.c (.b false))) (.c (.b false))) (.c (.b false))) (.c (.b false))) (.c (.b false))) (.c (.b false))) (.c (.b false))) (.c (.b false))) (.c (.b false))) (.c (.b false))) (.ret [(false, [(.v 13)])]))
  (.lt (.bin .gtr (.v 3) (.c (.i .i64 2))) (.ite (.v 13)
  (.lt (.ite (.eqt true (.v 0) (.c (.b false))) (.ite (.eqt false (.v 1) (.c (.i .u64 0))) (.ite (.eqt true (.v 2) (.c (.b false))) (.ite (.eqt false (.v 3) (.c (.i .i64 0))) (.ite (.eqt false (.v 4) (.c (.i .u64 0))) (.ite (.eqt false (.v 5) (.c (.i .u64 0))) (.ite (.eqt true (.v 6) (.c (.b false))) (.ite (.eqt true (.v 7) (.c (.b false))) (.ite (.eqt true (.v 8) (.c (.b false))) (.ite (.eqt true (.v 9) (.c (.b false))) (.ite (.eqt true (.v 10) (.c (.b false))) (.c (.b true)) (.c (.b false))) (.c (.b false))) (.c (.b false))) (.c (.b false))) (.c (.b false))) (.c (.b false))) (.c (.b false))) (.c (.b false))) (.c (.b false))) (.c (.b false))) (.c (.b false))) (.ret [(false, [(.v 14)])]))
  (.call 40 [(false, [(.v 3)])] [(false, 1)]
  (.call 41 [(false, [(.v 4)]), (false, [(.c (.i .i64 27))])] [(false, 1)]
  (.ite (.v 15)
  (.call 41 [(false, [(.v 5)]), (false, [(.c (.i .i64 44))])] [(false, 1)]
  (.ite (.v 16)
  (.call 41 [(false, [(.v 1)]), (false, [(.c (.i .i64 16))])] [(false, 1)]
  (.ite (.v 17)
  (.call 42 [(false, [(.v 4)]), (false, [(.v 14)])] [(false, 1)]
  (.ite (.v 18)
  (.call 42 [(false, [(.v 5)]), (false, [(.v 14)])] [(false, 1)]
  (.ret [(false, [(.v 19)])]))
  (.ret [(false, [(.c (.b false))])])))
  (.ret [(false, [(.c (.b false))])])))
  (.ret [(false, [(.c (.b false))])])))
  (.ret [(false, [(.c (.b false))])]))))))))))
theorem entry_May_c : compile envIrSet 3000 30 = .ok entry_May_ir := by kernel_rfl
theorem entry_May_p : paramShape Tryd.prog 30 = some [(true, 11)] := by kernel_rfl
theorem entry_May_k : Known gAll 30 [(true, 11)] entry_May_ir := ⟨envIrSet, 3000, rfl, rfl, entry_May_c, entry_May_p⟩
/-- atlas/atlasref12.Pages -/
def atlasref12_Pages_ir : IR :=
  (.call 43 [(false, [(.v 0)])] [(false, 1)]
  (.lt (.bin .quo (.v 1) (.c (.i .u64 4096))) (.ret [(false, [(.v 2)])])))
theorem atlasref12_Pages_c : compile envIrSet 3000 31 = .ok atlasref12_Pages_ir := by kernel_rfl
theorem atlasref12_Pages_p : paramShape Tryd.prog 31 = some [(false, 1)] := by kernel_rfl
theorem atlasref12_Pages_k : Known gAll 31 [(false, 1)] atlasref12_Pages_ir := ⟨envIrSet, 3000, rfl, rfl, atlasref12_Pages_c, atlasref12_Pages_p⟩
/-- atlas/entry.Matches -/
def entry_Matches_ir : IR :=
  (.call 44 [(true, [(.v 0), (.v 1), (.v 2), (.v 3), (.v 4), (.v 5), (.v 6), (.v 7), (.v 8), (.v 9), (.v 10)]), (false, [(.v 12)])] [(false, 1)]
  (.ite (.v 13)
  (.ite (.v 2)
  (.ret [(false, [(.c (.b true))])])
  (.lt (.bin .eql (.v 1) (.v 11)) (.ret [(false, [(.v 14)])])))
  (.ret [(false, [(.c (.b false))])])))
theorem entry_Matches_c : compile envIrSet 3000 33 = .ok entry_Matches_ir := by kernel_rfl
theorem entry_Matches_p : paramShape Tryd.prog 33 = some [(true, 11), (false, 1), (false, 1)] := by kernel_rfl
theorem entry_Matches_k : Known gAll 33 [(true, 11), (false, 1), (false, 1)] entry_Matches_ir := ⟨envIrSet, 3000, rfl, rfl, entry_Matches_c, entry_Matches_p⟩
/-- atlas/plru.Touch -/
def plru_Touch_ir : IR :=
  (.chk (.rng (.v 1) 4) (.lt (.bin .andNot (.v 0) (.ite (.isk (.v 1) 0) (.c (.i .u8 0)) (.ite (.isk (.v 1) 1) (.c (.i .u8 2)) (.ite (.isk (.v 1) 2) (.c (.i .u8 1)) (.c (.i .u8 5)))))) (.lt (.bin .or (.v 2) (.ite (.isk (.v 1) 0) (.c (.i .u8 3)) (.ite (.isk (.v 1) 1) (.c (.i .u8 1)) (.ite (.isk (.v 1) 2) (.c (.i .u8 4)) (.c (.i .u8 0)))))) (.ret [(false, [(.v 3)])]))))
theorem plru_Touch_c : compile envIrSet 3000 34 = .ok plru_Touch_ir := by kernel_rfl
theorem plru_Touch_p : paramShape Tryd.prog 34 = some [(false, 1), (false, 1)] := by kernel_rfl
theorem plru_Touch_k : Known gAll 34 [(false, 1), (false, 1)] plru_Touch_ir := ⟨envIrSet, 3000, rfl, rfl, plru_Touch_c, plru_Touch_p⟩
/-- atlas/atlasref11.Touch -/
def atlasref11_Touch_ir : IR :=
  (.lt (.bin .rem (.v 0) (.c (.i .u8 2))) (.lt (.bin .quo (.v 0) (.c (.i .u8 2))) (.lt (.bin .rem (.v 3) (.c (.i .u8 2))) (.lt (.bin .quo (.v 0) (.c (.i .u8 4))) (.lt (.bin .eql (.v 1) (.c (.i .i64 0))) (.ite (.v 6)
  (.lt (.bin .eql (.v 1) (.c (.i .i64 1))) (.ite (.v 7)
  (.lt (.bin .eql (.v 1) (.c (.i .i64 2))) (.ite (.v 8)
  (.lt (.bin .eql (.v 1) (.c (.i .i64 3))) (.ite (.v 9)
  (.ret [(false, [(.c (.i .u8 0))])])
  (.ret [(false, [(.c (.i .u8 4))])])))
  (.lt (.bin .eql (.v 1) (.c (.i .i64 3))) (.ite (.v 9)
  (.ret [(false, [(.c (.i .u8 0))])])
  (.lt (.bin .mul (.c (.i .u8 4)) (.v 5)) (.lt (.bin .add (.c (.i .u8 1)) (.v 10)) (.ret [(false, [(.v 11)])])))))))
  (.lt (.bin .eql (.v 1) (.c (.i .i64 2))) (.ite (.v 8)
  (.lt (.bin .eql (.v 1) (.c (.i .i64 3))) (.ite (.v 9)
  (.ret [(false, [(.c (.i .u8 2))])])
  (.ret [(false, [(.c (.i .u8 6))])])))
  (.lt (.bin .eql (.v 1) (.c (.i .i64 3))) (.ite (.v 9)
  (.ret [(false, [(.c (.i .u8 2))])])
  (.lt (.bin .mul (.c (.i .u8 4)) (.v 5)) (.lt (.bin .add (.c (.i .u8 3)) (.v 10)) (.ret [(false, [(.v 11)])])))))))))
  (.lt (.bin .eql (.v 1) (.c (.i .i64 1))) (.ite (.v 7)
  (.lt (.bin .eql (.v 1) (.c (.i .i64 2))) (.ite (.v 8)
  (.lt (.bin .eql (.v 1) (.c (.i .i64 3))) (.ite (.v 9)
  (.ret [(false, [(.c (.i .u8 0))])])
  (.ret [(false, [(.c (.i .u8 4))])])))
  (.lt (.bin .eql (.v 1) (.c (.i .i64 3))) (.ite (.v 9)
  (.ret [(false, [(.c (.i .u8 0))])])
  (.lt (.bin .mul (.c (.i .u8 4)) (.v 5)) (.lt (.bin .add (.c (.i .u8 1)) (.v 10)) (.ret [(false, [(.v 11)])])))))))
  (.lt (.bin .eql (.v 1) (.c (.i .i64 2))) (.ite (.v 8)
  (.lt (.bin .eql (.v 1) (.c (.i .i64 3))) (.ite (.v 9)
  (.lt (.bin .mul (.c (.i .u8 2)) (.v 4)) (.lt (.bin .add (.c (.i .u8 0)) (.v 10)) (.lt (.bin .add (.v 11) (.c (.i .u8 0))) (.ret [(false, [(.v 12)])]))))
  (.lt (.bin .mul (.c (.i .u8 2)) (.v 4)) (.lt (.bin .add (.c (.i .u8 0)) (.v 10)) (.lt (.bin .add (.v 11) (.c (.i .u8 4))) (.ret [(false, [(.v 12)])]))))))
  (.lt (.bin .eql (.v 1) (.c (.i .i64 3))) (.ite (.v 9)
  (.lt (.bin .mul (.c (.i .u8 2)) (.v 4)) (.lt (.bin .add (.c (.i .u8 0)) (.v 10)) (.lt (.bin .add (.v 11) (.c (.i .u8 0))) (.ret [(false, [(.v 12)])]))))
  (.lt (.bin .mul (.c (.i .u8 2)) (.v 4)) (.lt (.bin .add (.v 2) (.v 10)) (.lt (.bin .mul (.c (.i .u8 4)) (.v 5)) (.lt (.bin .add (.v 11) (.v 12)) (.ret [(false, [(.v 13)])])))))))))))))))))
theorem atlasref11_Touch_c : compile envIrSet 3000 35 = .ok atlasref11_Touch_ir := by kernel_rfl
theorem atlasref11_Touch_p : paramShape Tryd.prog 35 = some [(false, 1), (false, 1)] := by kernel_rfl
theorem atlasref11_Touch_k : Known gAll 35 [(false, 1), (false, 1)] atlasref11_Touch_ir := ⟨envIrSet, 3000, rfl, rfl, atlasref11_Touch_c, atlasref11_Touch_p⟩
/-- atlas/set.goes -/
def set_goes_ir : IR :=
  (.lt (.bin .geq (.v 45) (.c (.i .i64 0))) (.ite (.v 46)
  (.lt (.bin .lss (.v 45) (.c (.i .i64 4))) (.ite (.v 47)
  (.ret [(false, [(.v 45)])])
  (.lt (.un .not (.v 0)) (.ite (.v 48)
  (.ret [(false, [(.c (.i .i64 0))])])
  (.lt (.un .not (.v 11)) (.ite (.v 49)
  (.ret [(false, [(.c (.i .i64 1))])])
  (.lt (.un .not (.v 22)) (.ite (.v 50)
  (.ret [(false, [(.c (.i .i64 2))])])
  (.lt (.un .not (.v 33)) (.ite (.v 51)
  (.ret [(false, [(.c (.i .i64 3))])])
  (.call 46 [(false, [(.v 44)])] [(false, 1)]
  (.ret [(false, [(.v 52)])]))))))))))))
  (.lt (.un .not (.v 0)) (.ite (.v 47)
  (.ret [(false, [(.c (.i .i64 0))])])
  (.lt (.un .not (.v 11)) (.ite (.v 48)
  (.ret [(false, [(.c (.i .i64 1))])])
  (.lt (.un .not (.v 22)) (.ite (.v 49)
  (.ret [(false, [(.c (.i .i64 2))])])
  (.lt (.un .not (.v 33)) (.ite (.v 50)
  (.ret [(false, [(.c (.i .i64 3))])])
  (.call 46 [(false, [(.v 44)])] [(false, 1)]
  (.ret [(false, [(.v 51)])]))))))))))))
theorem set_goes_c : compile envIrSet 3000 36 = .ok set_goes_ir := by kernel_rfl
theorem set_goes_p : paramShape Tryd.prog 36 = some [(true, 45), (false, 1)] := by kernel_rfl
theorem set_goes_k : Known gAll 36 [(true, 45), (false, 1)] set_goes_ir := ⟨envIrSet, 3000, rfl, rfl, set_goes_c, set_goes_p⟩
/-- atlas/atlasref01.Sign -/
def atlasref01_Sign_ir : IR :=
  (.loop [(.c (.i .i64 0)), (.c (.b false)), (.c (.b false)), (.c (.b false)), (.c (.b false)), (.c (.b false)), (.c (.b false)), (.c (.b false)), (.c (.b false)), (.c (.b false)), (.c (.b false)), (.c (.b false)), (.c (.b false)), (.c (.b false)), (.c (.b false)), (.c (.b false)), (.c (.b false)), (.c (.b false)), (.c (.b false)), (.c (.b false)), (.c (.b false)), (.c (.b false)), (.c (.b false)), (.c (.b false)), (.c (.b false)), (.c (.b false)), (.c (.b false)), (.c (.b false)), (.c (.b false)), (.c (.b false)), (.c (.b false)), (.c (.b false)), (.c (.b false)), (.c (.b false)), (.c (.b false)), (.c (.b false)), (.c (.b false)), (.c (.b false)), (.c (.b false)), (.c (.b false)), (.c (.b false)), (.c (.b false)), (.c (.b false)), (.c (.b false)), (.c (.b false)), (.c (.b false)), (.c (.b false)), (.c (.b false)), (.c (.b false)), (.c (.b false)), (.c (.b false)), (.c (.b false)), (.c (.b false)), (.c (.b false)), (.c (.b false)), (.c (.b false)), (.c (.b false)), (.c (.b false)), (.c (.b false)), (.c (.b false)), (.c (.b false)), (.c (.b false)), (.c (.b false)), (.c (.b false)), (.c (.b false))]
  (.lt (.bin .lss (.v 2) (.c (.i .i64 64))) (.ite (.v 67)
  (.lt (.bin .sub (.v 1) (.c (.i .i64 1))) (.lt (.ite (.bin .lss (.v 68) (.v 2)) (.v 68) (.v 2)) (.call 47 [(false, [(.v 0)]), (false, [(.v 69)])] [(false, 1)]
  (.chk (.rng (.v 2) 64) (.lt (.bin .add (.v 2) (.c (.i .i64 1))) (.cont 0 [(.v 71), (.ite (.isk (.v 2) 0) (.v 70) (.v 3)), (.ite (.isk (.v 2) 1) (.v 70) (.v 4)), (.ite (.isk (.v 2) 2) (.v 70) (.v 5)), (.ite (.isk (.v 2) 3) (.v 70) (.v 6)), (.ite (.isk (.v 2) 4) (.v 70) (.v 7)), (.ite (.isk (.v 2) 5) (.v 70) (.v 8)), (.ite (.isk (.v 2) 6) (.v 70) (.v 9)), (.ite (.isk (.v 2) 7) (.v 70) (.v 10)), (.ite (.isk (.v 2) 8) (.v 70) (.v 11)), (.ite (.isk (.v 2) 9) (.v 70) (.v 12)), (.ite (.isk (.v 2) 10) (.v 70) (.v 13)), (.ite (.isk (.v 2) 11) (.v 70) (.v 14)), (.ite (.isk (.v 2) 12) (.v 70) (.v 15)), (.ite (.isk (.v 2) 13) (.v 70) (.v 16)), (.ite (.isk (.v 2) 14) (.v 70) (.v 17)), (.ite (.isk (.v 2) 15) (.v 70) (.v 18)), (.ite (.isk (.v 2) 16) (.v 70) (.v 19)), (.ite (.isk (.v 2) 17) (.v 70) (.v 20)), (.ite (.isk (.v 2) 18) (.v 70) (.v 21)), (.ite (.isk (.v 2) 19) (.v 70) (.v 22)), (.ite (.isk (.v 2) 20) (.v 70) (.v 23)), (.ite (.isk (.v 2) 21) (.v 70) (.v 24)), (.ite (.isk (.v 2) 22) (.v 70) (.v 25)), (.ite (.isk (.v 2) 23) (.v 70) (.v 26)), (.ite (.isk (.v 2) 24) (.v 70) (.v 27)), (.ite (.isk (.v 2) 25) (.v 70) (.v 28)), (.ite (.isk (.v 2) 26) (.v 70) (.v 29)), (.ite (.isk (.v 2) 27) (.v 70) (.v 30)), (.ite (.isk (.v 2) 28) (.v 70) (.v 31)), (.ite (.isk (.v 2) 29) (.v 70) (.v 32)), (.ite (.isk (.v 2) 30) (.v 70) (.v 33)), (.ite (.isk (.v 2) 31) (.v 70) (.v 34)), (.ite (.isk (.v 2) 32) (.v 70) (.v 35)), (.ite (.isk (.v 2) 33) (.v 70) (.v 36)), (.ite (.isk (.v 2) 34) (.v 70) (.v 37)), (.ite (.isk (.v 2) 35) (.v 70) (.v 38)), (.ite (.isk (.v 2) 36) (.v 70) (.v 39)), (.ite (.isk (.v 2) 37) (.v 70) (.v 40)), (.ite (.isk (.v 2) 38) (.v 70) (.v 41)), (.ite (.isk (.v 2) 39) (.v 70) (.v 42)), (.ite (.isk (.v 2) 40) (.v 70) (.v 43)), (.ite (.isk (.v 2) 41) (.v 70) (.v 44)), (.ite (.isk (.v 2) 42) (.v 70) (.v 45)), (.ite (.isk (.v 2) 43) (.v 70) (.v 46)), (.ite (.isk (.v 2) 44) (.v 70) (.v 47)), (.ite (.isk (.v 2) 45) (.v 70) (.v 48)), (.ite (.isk (.v 2) 46) (.v 70) (.v 49)), (.ite (.isk (.v 2) 47) (.v 70) (.v 50)), (.ite (.isk (.v 2) 48) (.v 70) (.v 51)), (.ite (.isk (.v 2) 49) (.v 70) (.v 52)), (.ite (.isk (.v 2) 50) (.v 70) (.v 53)), (.ite (.isk (.v 2) 51) (.v 70) (.v 54)), (.ite (.isk (.v 2) 52) (.v 70) (.v 55)), (.ite (.isk (.v 2) 53) (.v 70) (.v 56)), (.ite (.isk (.v 2) 54) (.v 70) (.v 57)), (.ite (.isk (.v 2) 55) (.v 70) (.v 58)), (.ite (.isk (.v 2) 56) (.v 70) (.v 59)), (.ite (.isk (.v 2) 57) (.v 70) (.v 60)), (.ite (.isk (.v 2) 58) (.v 70) (.v 61)), (.ite (.isk (.v 2) 59) (.v 70) (.v 62)), (.ite (.isk (.v 2) 60) (.v 70) (.v 63)), (.ite (.isk (.v 2) 61) (.v 70) (.v 64)), (.ite (.isk (.v 2) 62) (.v 70) (.v 65)), (.ite (.isk (.v 2) 63) (.v 70) (.v 66))]))))))
  (.call 48 [(true, [(.v 3), (.v 4), (.v 5), (.v 6), (.v 7), (.v 8), (.v 9), (.v 10), (.v 11), (.v 12), (.v 13), (.v 14), (.v 15), (.v 16), (.v 17), (.v 18), (.v 19), (.v 20), (.v 21), (.v 22), (.v 23), (.v 24), (.v 25), (.v 26), (.v 27), (.v 28), (.v 29), (.v 30), (.v 31), (.v 32), (.v 33), (.v 34), (.v 35), (.v 36), (.v 37), (.v 38), (.v 39), (.v 40), (.v 41), (.v 42), (.v 43), (.v 44), (.v 45), (.v 46), (.v 47), (.v 48), (.v 49), (.v 50), (.v 51), (.v 52), (.v 53), (.v 54), (.v 55), (.v 56), (.v 57), (.v 58), (.v 59), (.v 60), (.v 61), (.v 62), (.v 63), (.v 64), (.v 65), (.v 66)])] [(false, 1)]
  (.ret [(false, [(.v 68)])])))))
theorem atlasref01_Sign_c : compile envIrSet 3000 37 = .ok atlasref01_Sign_ir := by kernel_rfl
theorem atlasref01_Sign_p : paramShape Tryd.prog 37 = some [(false, 1), (false, 1)] := by kernel_rfl
theorem atlasref01_Sign_k : Known gAll 37 [(false, 1), (false, 1)] atlasref01_Sign_ir := ⟨envIrSet, 3000, rfl, rfl, atlasref01_Sign_c, atlasref01_Sign_p⟩
/-- atlas/atlasref12.Covers -/
def atlasref12_Covers_ir : IR :=
  (.call 49 [(false, [(.v 11)])] [(false, 1)]
  (.ite (.v 0)
  (.lt (.bin .geq (.v 12) (.v 4)) (.ite (.v 13)
  (.call 31 [(false, [(.v 3)])] [(false, 1)]
  (.lt (.bin .add (.v 4) (.v 14)) (.lt (.bin .lss (.v 12) (.v 15)) (.ret [(false, [(.v 16)])]))))
  (.ret [(false, [(.c (.b false))])])))
  (.ret [(false, [(.c (.b false))])])))
theorem atlasref12_Covers_c : compile envIrSet 3000 38 = .ok atlasref12_Covers_ir := by kernel_rfl
theorem atlasref12_Covers_p : paramShape Tryd.prog 38 = some [(true, 11), (false, 1)] := by kernel_rfl
theorem atlasref12_Covers_k : Known gAll 38 [(true, 11), (false, 1)] atlasref12_Covers_ir := ⟨envIrSet, 3000, rfl, rfl, atlasref12_Covers_c, atlasref12_Covers_p⟩
/-- atlas/entry.pages -/
def entry_pages_ir : IR :=
  (.call 50 [(false, [(.v 0)])] [(false, 1)]
  (.lt (.bin .quo (.v 1) (.c (.i .u64 4096))) (.ret [(false, [(.v 2)])])))
theorem entry_pages_c : compile envIrSet 3000 40 = .ok entry_pages_ir := by kernel_rfl
theorem entry_pages_p : paramShape Tryd.prog 40 = some [(false, 1)] := by kernel_rfl
theorem entry_pages_k : Known gAll 40 [(false, 1)] entry_pages_ir := ⟨envIrSet, 3000, rfl, rfl, entry_pages_c, entry_pages_p⟩
/-- atlas/entry.fits -/
def entry_fits_ir : IR :=
  (.call 51 [(false, [(.v 0)]), (false, [(.c (.i .i64 0))]), (false, [(.v 1)])] [(false, 1)]
  (.lt (.bin .eql (.v 2) (.v 0)) (.ret [(false, [(.v 3)])])))
theorem entry_fits_c : compile envIrSet 3000 41 = .ok entry_fits_ir := by kernel_rfl
theorem entry_fits_p : paramShape Tryd.prog 41 = some [(false, 1), (false, 1)] := by kernel_rfl
theorem entry_fits_k : Known gAll 41 [(false, 1), (false, 1)] entry_fits_ir := ⟨envIrSet, 3000, rfl, rfl, entry_fits_c, entry_fits_p⟩
/-- atlas/bits.Even -/
def bits_Even_ir : IR :=
  (.lt (.bin .eql (.v 1) (.c (.i .u64 0))) (.ite (.v 2)
  (.lt (.bin .eql (.v 0) (.c (.i .u64 0))) (.ret [(false, [(.v 3)])]))
  (.lt (.bin .rem (.v 0) (.v 1)) (.lt (.bin .eql (.v 3) (.c (.i .u64 0))) (.ret [(false, [(.v 4)])])))))
theorem bits_Even_c : compile envIrSet 3000 42 = .ok bits_Even_ir := by kernel_rfl
theorem bits_Even_p : paramShape Tryd.prog 42 = some [(false, 1), (false, 1)] := by kernel_rfl
theorem bits_Even_k : Known gAll 42 [(false, 1), (false, 1)] bits_Even_ir := ⟨envIrSet, 3000, rfl, rfl, bits_Even_c, bits_Even_p⟩
/-- atlas/atlasref05.Size -/
def atlasref05_Size_ir : IR :=
  (.loop [(.c (.i .u64 4096)), (.c (.i .i64 0))]
  (.lt (.bin .lss (.v 2) (.v 0)) (.ite (.v 3)
  (.lt (.bin .mul (.v 1) (.c (.i .u64 512))) (.lt (.bin .add (.v 2) (.c (.i .i64 1))) (.cont 0 [(.v 4), (.v 5)])))
  (.ret [(false, [(.v 1)])]))))
theorem atlasref05_Size_c : compile envIrSet 3000 43 = .ok atlasref05_Size_ir := by kernel_rfl
theorem atlasref05_Size_p : paramShape Tryd.prog 43 = some [(false, 1)] := by kernel_rfl
theorem atlasref05_Size_k : Known gAll 43 [(false, 1)] atlasref05_Size_ir := ⟨envIrSet, 3000, rfl, rfl, atlasref05_Size_c, atlasref05_Size_p⟩
/-- atlas/entry.Covers -/
def entry_Covers_ir : IR :=
  (.ite (.v 0)
  (.call 53 [(false, [(.v 11)]), (false, [(.v 3)])] [(false, 1)]
  (.call 52 [(false, [(.v 12)])] [(false, 1)]
  (.lt (.bin .eql (.v 13) (.v 4)) (.ret [(false, [(.v 14)])]))))
  (.ret [(false, [(.c (.b false))])]))
theorem entry_Covers_c : compile envIrSet 3000 44 = .ok entry_Covers_ir := by kernel_rfl
theorem entry_Covers_p : paramShape Tryd.prog 44 = some [(true, 11), (false, 1)] := by kernel_rfl
theorem entry_Covers_k : Known gAll 44 [(true, 11), (false, 1)] entry_Covers_ir := ⟨envIrSet, 3000, rfl, rfl, entry_Covers_c, entry_Covers_p⟩
/-- atlas/plru.Victim -/
def plru_Victim_ir : IR :=
  (.call 54 [(false, [(.v 0)]), (false, [(.c (.i .u8 1))])] [(false, 1)]
  (.lt (.bin .eql (.v 1) (.c (.i .i64 0))) (.ite (.v 2)
  (.call 54 [(false, [(.v 0)]), (false, [(.c (.i .u8 2))])] [(false, 1)]
  (.ret [(false, [(.v 3)])]))
  (.call 54 [(false, [(.v 0)]), (false, [(.c (.i .u8 4))])] [(false, 1)]
  (.lt (.bin .add (.c (.i .i64 2)) (.v 3)) (.ret [(false, [(.v 4)])]))))))
theorem plru_Victim_c : compile envIrSet 3000 46 = .ok plru_Victim_ir := by kernel_rfl
theorem plru_Victim_p : paramShape Tryd.prog 46 = some [(false, 1)] := by kernel_rfl
theorem plru_Victim_k : Known gAll 46 [(false, 1)] plru_Victim_ir := ⟨envIrSet, 3000, rfl, rfl, plru_Victim_c, plru_Victim_p⟩
/-- atlas/atlasref01.Bit -/
def atlasref01_Bit_ir : IR :=
  (.lt (.bin .lss (.v 1) (.c (.i .i64 0))) (.ite (.v 2)
  (.ret [(false, [(.c (.b false))])])
  (.lt (.bin .gtr (.v 1) (.c (.i .i64 63))) (.ite (.v 3)
  (.ret [(false, [(.c (.b false))])])
  (.loop [(.v 0), (.c (.i .i64 0))]
  (.lt (.bin .lss (.v 5) (.v 1)) (.ite (.v 6)
  (.lt (.bin .quo (.v 4) (.c (.i .u64 2))) (.lt (.bin .add (.v 5) (.c (.i .i64 1))) (.cont 0 [(.v 7), (.v 8)])))
  (.lt (.bin .rem (.v 4) (.c (.i .u64 2))) (.lt (.bin .eql (.v 7) (.c (.i .u64 1))) (.ret [(false, [(.v 8)])]))))))))))
theorem atlasref01_Bit_c : compile envIrSet 3000 47 = .ok atlasref01_Bit_ir := by kernel_rfl
theorem atlasref01_Bit_p : paramShape Tryd.prog 47 = some [(false, 1), (false, 1)] := by kernel_rfl
theorem atlasref01_Bit_k : Known gAll 47 [(false, 1), (false, 1)] atlasref01_Bit_ir := ⟨envIrSet, 3000, rfl, rfl, atlasref01_Bit_c, atlasref01_Bit_p⟩
/-- atlas/atlasref01.of -/
def atlasref01_of_ir : IR :=
  (.loop [(.c (.i .u64 0)), (.c (.i .i64 63))]
  (.lt (.bin .geq (.v 65) (.c (.i .i64 0))) (.ite (.v 66)
  (.lt (.bin .mul (.v 64) (.c (.i .u64 2))) (.chk (.rng (.v 65) 64) (.ite (.ite (.isk (.v 65) 0) (.v 0) (.ite (.isk (.v 65) 1) (.v 1) (.ite (.isk (.v 65) 2) (.v 2) (.ite (.isk (.v 65) 3) (.v 3) (.ite (.isk (.v 65) 4) (.v 4) (.ite (.isk (.v 65) 5) (.v 5) (.ite (.isk (.v 65) 6) (.v 6) (.ite (.isk (.v 65) 7) (.v 7) (.ite (.isk (.v 65) 8) (.v 8) (.ite (.isk (.v 65) 9) (.v 9) (.ite (.isk (.v 65) 10) (.v 10) (.ite (.isk (.v 65) 11) (.v 11) (.ite (.isk (.v 65) 12) (.v 12) (.ite (.isk (.v 65) 13) (.v 13) (.ite (.isk (.v 65) 14) (.v 14) (.ite (.isk (.v 65) 15) (.v 15) (.ite (.isk (.v 65) 16) (.v 16) (.ite (.isk (.v 65) 17) (.v 17) (.ite (.isk (.v 65) 18) (.v 18) (.ite (.isk (.v 65) 19) (.v 19) (.ite (.isk (.v 65) 20) (.v 20) (.ite (.isk (.v 65) 21) (.v 21) (.ite (.isk (.v 65) 22) (.v 22) (.ite (.isk (.v 65) 23) (.v 23) (.ite (.isk (.v 65) 24) (.v 24) (.ite (.isk (.v 65) 25) (.v 25) (.ite (.isk (.v 65) 26) (.v 26) (.ite (.isk (.v 65) 27) (.v 27) (.ite (.isk (.v 65) 28) (.v 28) (.ite (.isk (.v 65) 29) (.v 29) (.ite (.isk (.v 65) 30) (.v 30) (.ite (.isk (.v 65) 31) (.v 31) (.ite (.isk (.v 65) 32) (.v 32) (.ite (.isk (.v 65) 33) (.v 33) (.ite (.isk (.v 65) 34) (.v 34) (.ite (.isk (.v 65) 35) (.v 35) (.ite (.isk (.v 65) 36) (.v 36) (.ite (.isk (.v 65) 37) (.v 37) (.ite (.isk (.v 65) 38) (.v 38) (.ite (.isk (.v 65) 39) (.v 39) (.ite (.isk (.v 65) 40) (.v 40) (.ite (.isk (.v 65) 41) (.v 41) (.ite (.isk (.v 65) 42) (.v 42) (.ite (.isk (.v 65) 43) (.v 43) (.ite (.isk (.v 65) 44) (.v 44) (.ite (.isk (.v 65) 45) (.v 45) (.ite (.isk (.v 65) 46) (.v 46) (.ite (.isk (.v 65) 47) (.v 47) (.ite (.isk (.v 65) 48) (.v 48) (.ite (.isk (.v 65) 49) (.v 49) (.ite (.isk (.v 65) 50) (.v 50) (.ite (.isk (.v 65) 51) (.v 51) (.ite (.isk (.v 65) 52) (.v 52) (.ite (.isk (.v 65) 53) (.v 53) (.ite (.isk (.v 65) 54) (.v 54) (.ite (.isk (.v 65) 55) (.v 55) (.ite (.isk (.v 65) 56) (.v 56) (.ite (.isk (.v 65) 57) (.v 57) (.ite (.isk (.v 65) 58) (.v 58) (.ite (.isk (.v 65) 59) (.v 59) (.ite (.isk (.v 65) 60) (.v 60) (.ite (.isk (.v 65) 61) (.v 61) (.ite (.isk (.v 65) 62) (.v 62) (.v 63))))))))))))))))))))))))))))))))))))))))))))))))))))))))))))))))
  (.lt (.bin .add (.v 67) (.c (.i .u64 1))) (.lt (.bin .sub (.v 65) (.c (.i .i64 1))) (.cont 0 [(.v 68), (.v 69)])))
  (.lt (.bin .sub (.v 65) (.c (.i .i64 1))) (.cont 0 [(.v 67), (.v 68)])))))
  (.ret [(false, [(.v 64)])]))))
theorem atlasref01_of_c : compile envIrSet 3000 48 = .ok atlasref01_of_ir := by kernel_rfl
theorem atlasref01_of_p : paramShape Tryd.prog 48 = some [(true, 64)] := by kernel_rfl
theorem atlasref01_of_k : Known gAll 48 [(true, 64)] atlasref01_of_ir := ⟨envIrSet, 3000, rfl, rfl, atlasref01_of_c, atlasref01_of_p⟩
/-- atlas/atlasref05.Number -/
def atlasref05_Number_ir : IR :=
  (.lt (.bin .quo (.v 0) (.c (.i .u64 4096))) (.lt (.bin .rem (.v 1) (.c (.i .u64 134217728))) (.ret [(false, [(.v 2)])])))
theorem atlasref05_Number_c : compile envIrSet 3000 49 = .ok atlasref05_Number_ir := by kernel_rfl
theorem atlasref05_Number_p : paramShape Tryd.prog 49 = some [(false, 1)] := by kernel_rfl
theorem atlasref05_Number_k : Known gAll 49 [(false, 1)] atlasref05_Number_ir := ⟨envIrSet, 3000, rfl, rfl, atlasref05_Number_c, atlasref05_Number_p⟩
/-- atlas/va.Size -/
def va_Size_ir : IR :=
  (.chk (.rng (.v 0) 3) (.ret [(false, [(.ite (.isk (.v 0) 0) (.c (.i .u64 4096)) (.ite (.isk (.v 0) 1) (.c (.i .u64 2097152)) (.c (.i .u64 1073741824))))])]))
theorem va_Size_c : compile envIrSet 3000 50 = .ok va_Size_ir := by kernel_rfl
theorem va_Size_p : paramShape Tryd.prog 50 = some [(false, 1)] := by kernel_rfl
theorem va_Size_k : Known gAll 50 [(false, 1)] va_Size_ir := ⟨envIrSet, 3000, rfl, rfl, va_Size_c, va_Size_p⟩
/-- atlas/bits.Get -/
def bits_Get_ir : IR :=
  (.lt (.cv .u64 (.v 1)) (.lt (.bin .shr (.v 0) (.v 3)) (.call 55 [(false, [(.v 2)])] [(false, 1)]
  (.lt (.bin .and (.v 4) (.v 5)) (.ret [(false, [(.v 6)])])))))
theorem bits_Get_c : compile envIrSet 3000 51 = .ok bits_Get_ir := by kernel_rfl
theorem bits_Get_p : paramShape Tryd.prog 51 = some [(false, 1), (false, 1), (false, 1)] := by kernel_rfl
theorem bits_Get_k : Known gAll 51 [(false, 1), (false, 1), (false, 1)] bits_Get_ir := ⟨envIrSet, 3000, rfl, rfl, bits_Get_c, bits_Get_p⟩
/-- atlas/va.Number -/
def va_Number_ir : IR :=
  (.call 51 [(false, [(.v 0)]), (false, [(.c (.i .i64 12))]), (false, [(.c (.i .i64 27))])] [(false, 1)]
  (.ret [(false, [(.v 1)])]))
theorem va_Number_c : compile envIrSet 3000 52 = .ok va_Number_ir := by kernel_rfl
theorem va_Number_p : paramShape Tryd.prog 52 = some [(false, 1)] := by kernel_rfl
theorem va_Number_k : Known gAll 52 [(false, 1)] va_Number_ir := ⟨envIrSet, 3000, rfl, rfl, va_Number_c, va_Number_p⟩
/-- atlas/va.Base -/
def va_Base_ir : IR :=
  (.call 56 [(false, [(.v 0)]), (false, [(.v 1)])] [(false, 1)]
  (.lt (.bin .sub (.v 0) (.v 2)) (.ret [(false, [(.v 3)])])))
theorem va_Base_c : compile envIrSet 3000 53 = .ok va_Base_ir := by kernel_rfl
theorem va_Base_p : paramShape Tryd.prog 53 = some [(false, 1), (false, 1)] := by kernel_rfl
theorem va_Base_k : Known gAll 53 [(false, 1), (false, 1)] va_Base_ir := ⟨envIrSet, 3000, rfl, rfl, va_Base_c, va_Base_p⟩
/-- atlas/plru.side -/
def plru_side_ir : IR :=
  (.lt (.bin .and (.v 0) (.v 1)) (.lt (.bin .neq (.v 2) (.c (.i .u8 0))) (.ite (.v 3)
  (.ret [(false, [(.c (.i .i64 1))])])
  (.ret [(false, [(.c (.i .i64 0))])]))))
theorem plru_side_c : compile envIrSet 3000 54 = .ok plru_side_ir := by kernel_rfl
theorem plru_side_p : paramShape Tryd.prog 54 = some [(false, 1), (false, 1)] := by kernel_rfl
theorem plru_side_k : Known gAll 54 [(false, 1), (false, 1)] plru_side_ir := ⟨envIrSet, 3000, rfl, rfl, plru_side_c, plru_side_p⟩
/-- atlas/bits.mask -/
def bits_mask_ir : IR :=
  (.lt (.bin .geq (.v 0) (.c (.i .i64 64))) (.ite (.v 1)
  (.ret [(false, [(.c (.i .u64 18446744073709551615))])])
  (.lt (.cv .u64 (.v 0)) (.lt (.bin .shl (.c (.i .u64 1)) (.v 2)) (.lt (.bin .sub (.v 3) (.c (.i .u64 1))) (.ret [(false, [(.v 4)])]))))))
theorem bits_mask_c : compile envIrSet 3000 55 = .ok bits_mask_ir := by kernel_rfl
theorem bits_mask_p : paramShape Tryd.prog 55 = some [(false, 1)] := by kernel_rfl
theorem bits_mask_k : Known gAll 55 [(false, 1)] bits_mask_ir := ⟨envIrSet, 3000, rfl, rfl, bits_mask_c, bits_mask_p⟩
/-- atlas/va.Offset -/
def va_Offset_ir : IR :=
  (.chk (.rng (.v 1) 3) (.lt (.bin .sub (.ite (.isk (.v 1) 0) (.c (.i .u64 4096)) (.ite (.isk (.v 1) 1) (.c (.i .u64 2097152)) (.c (.i .u64 1073741824)))) (.c (.i .u64 1))) (.lt (.bin .and (.v 0) (.v 2)) (.ret [(false, [(.v 3)])]))))
theorem va_Offset_c : compile envIrSet 3000 56 = .ok va_Offset_ir := by kernel_rfl
theorem va_Offset_p : paramShape Tryd.prog 56 = some [(false, 1), (false, 1)] := by kernel_rfl
theorem va_Offset_k : Known gAll 56 [(false, 1), (false, 1)] va_Offset_ir := ⟨envIrSet, 3000, rfl, rfl, va_Offset_c, va_Offset_p⟩
def TIrSet : Tbl := [(3, [(true, 45), (true, 11), (false, 1), (false, 1), (false, 1), (false, 1), (false, 1)], atlaslaw13_SetDoes_ir),(5, [(true, 45), (false, 1), (false, 1), (false, 1), (false, 1)], atlaslaw13_SetFinds_ir),(6, [(false, 1)], atlaslaw13_SetFills_ir),(7, [], atlaslaw13_awake_ir),(8, [(true, 45)], set_Right_ir),(9, [(true, 45)], atlasref13_Right_ir),(10, [(true, 11)], atlasref12_May_ir),(11, [(false, 1)], atlasref05_Is_ir),(12, [(true, 45), (false, 1), (false, 1), (false, 1)], set_Find_ir),(13, [(true, 45), (false, 1), (false, 1), (false, 1)], atlasref13_Find_ir),(14, [(true, 45), (false, 1)], set_Use_ir),(15, [(true, 45), (false, 1)], atlasref13_Use_ir),(16, [(true, 45), (false, 1)], set_Drop_ir),(17, [(true, 45), (false, 1)], atlasref13_Drop_ir),(18, [(true, 11), (true, 11)], set_Same_ir),(19, [(true, 11), (true, 11)], atlasref13_Same_ir),(20, [(true, 45), (true, 11), (false, 1)], set_Put_ir),(21, [(true, 45), (true, 11), (false, 1)], atlasref13_Put_ir),(22, [(true, 45)], atlasref13_Unlike_ir),(23, [(false, 1)], atlasref05_Of_ir),(24, [(false, 1)], atlasref11_Victim_ir),(25, [(true, 11), (false, 1), (false, 1)], atlasref12_Matches_ir),(26, [(false, 1), (false, 1)], atlaslaw13_one_ir),(27, [(false, 1)], plru_Is_ir),(30, [(true, 11)], entry_May_ir),(31, [(false, 1)], atlasref12_Pages_ir),(33, [(true, 11), (false, 1), (false, 1)], entry_Matches_ir),(34, [(false, 1), (false, 1)], plru_Touch_ir),(35, [(false, 1), (false, 1)], atlasref11_Touch_ir),(36, [(true, 45), (false, 1)], set_goes_ir),(37, [(false, 1), (false, 1)], atlasref01_Sign_ir),(38, [(true, 11), (false, 1)], atlasref12_Covers_ir),(40, [(false, 1)], entry_pages_ir),(41, [(false, 1), (false, 1)], entry_fits_ir),(42, [(false, 1), (false, 1)], bits_Even_ir),(43, [(false, 1)], atlasref05_Size_ir),(44, [(true, 11), (false, 1)], entry_Covers_ir),(46, [(false, 1)], plru_Victim_ir),(47, [(false, 1), (false, 1)], atlasref01_Bit_ir),(48, [(true, 64)], atlasref01_of_ir),(49, [(false, 1)], atlasref05_Number_ir),(50, [(false, 1)], va_Size_ir),(51, [(false, 1), (false, 1), (false, 1)], bits_Get_ir),(52, [(false, 1)], va_Number_ir),(53, [(false, 1), (false, 1)], va_Base_ir),(54, [(false, 1), (false, 1)], plru_side_ir),(55, [(false, 1)], bits_mask_ir),(56, [(false, 1), (false, 1)], va_Offset_ir)]
theorem TIrSet_ok : ∀ x ∈ TIrSet, Known gAll x.1 x.2.1 x.2.2 := List.forall_mem_cons.2 ⟨atlaslaw13_SetDoes_k,  List.forall_mem_cons.2 ⟨atlaslaw13_SetFinds_k,  List.forall_mem_cons.2 ⟨atlaslaw13_SetFills_k,  List.forall_mem_cons.2 ⟨atlaslaw13_awake_k,  List.forall_mem_cons.2 ⟨set_Right_k,  List.forall_mem_cons.2 ⟨atlasref13_Right_k,  List.forall_mem_cons.2 ⟨atlasref12_May_k,  List.forall_mem_cons.2 ⟨atlasref05_Is_k,  List.forall_mem_cons.2 ⟨set_Find_k,  List.forall_mem_cons.2 ⟨atlasref13_Find_k,  List.forall_mem_cons.2 ⟨set_Use_k,  List.forall_mem_cons.2 ⟨atlasref13_Use_k,  List.forall_mem_cons.2 ⟨set_Drop_k,  List.forall_mem_cons.2 ⟨atlasref13_Drop_k,  List.forall_mem_cons.2 ⟨set_Same_k,  List.forall_mem_cons.2 ⟨atlasref13_Same_k,  List.forall_mem_cons.2 ⟨set_Put_k,  List.forall_mem_cons.2 ⟨atlasref13_Put_k,  List.forall_mem_cons.2 ⟨atlasref13_Unlike_k,  List.forall_mem_cons.2 ⟨atlasref05_Of_k,  List.forall_mem_cons.2 ⟨atlasref11_Victim_k,  List.forall_mem_cons.2 ⟨atlasref12_Matches_k,  List.forall_mem_cons.2 ⟨atlaslaw13_one_k,  List.forall_mem_cons.2 ⟨plru_Is_k,  List.forall_mem_cons.2 ⟨entry_May_k,  List.forall_mem_cons.2 ⟨atlasref12_Pages_k,  List.forall_mem_cons.2 ⟨entry_Matches_k,  List.forall_mem_cons.2 ⟨plru_Touch_k,  List.forall_mem_cons.2 ⟨atlasref11_Touch_k,  List.forall_mem_cons.2 ⟨set_goes_k,  List.forall_mem_cons.2 ⟨atlasref01_Sign_k,  List.forall_mem_cons.2 ⟨atlasref12_Covers_k,  List.forall_mem_cons.2 ⟨entry_pages_k,  List.forall_mem_cons.2 ⟨entry_fits_k,  List.forall_mem_cons.2 ⟨bits_Even_k,  List.forall_mem_cons.2 ⟨atlasref05_Size_k,  List.forall_mem_cons.2 ⟨entry_Covers_k,  List.forall_mem_cons.2 ⟨plru_Victim_k,  List.forall_mem_cons.2 ⟨atlasref01_Bit_k,  List.forall_mem_cons.2 ⟨atlasref01_of_k,  List.forall_mem_cons.2 ⟨atlasref05_Number_k,  List.forall_mem_cons.2 ⟨va_Size_k,  List.forall_mem_cons.2 ⟨bits_Get_k,  List.forall_mem_cons.2 ⟨va_Number_k,  List.forall_mem_cons.2 ⟨va_Base_k,  List.forall_mem_cons.2 ⟨plru_side_k,  List.forall_mem_cons.2 ⟨bits_mask_k,  List.forall_mem_cons.2 ⟨va_Offset_k, fun _ h => nomatch h⟩⟩⟩⟩⟩⟩⟩⟩⟩⟩⟩⟩⟩⟩⟩⟩⟩⟩⟩⟩⟩⟩⟩⟩⟩⟩⟩⟩⟩⟩⟩⟩⟩⟩⟩⟩⟩⟩⟩⟩⟩⟩⟩⟩⟩⟩⟩⟩
end Go.Proofs.YtebcdcdcefhdfaaDoor.Sx
