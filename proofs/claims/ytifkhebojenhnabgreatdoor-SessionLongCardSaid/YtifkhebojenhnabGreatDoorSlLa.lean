/- The law, run by M, at both readings of the package variables. -/
import Derived.Test.YtifkhebojenhnabGreatDoorSlFb
import Derived.Test.YtifkhebojenhnabGreatDoorSlFc

